/- slices.symMergeCmpFunc at gels: two stretches, the merges of lesser ones known. (printed by wip/gen/gen_sort.py) -/
import Derived.Test.YtpmiinamaofnnaaSortIns
namespace Go.Proofs.Ytpmiinamaofnnaa
open Go.RowKit
set_option linter.unusedVariables false
set_option linter.unusedSimpArgs false

/-- where the search by halves ends: the parts of both stretches that change sides -/
structure Halved (key : Gel → Int) (D : Nat → Gel) (a m b mid s e : Nat) : Prop where
  h1 : a ≤ s
  h2 : s ≤ m
  h3 : m ≤ e
  h4 : e ≤ b
  hm : mid = s + (e - m)
  lo : ∀ i j, s ≤ i → i < m → m ≤ j → j < e → key (D j) < key (D i)
  hi : ∀ i j, a ≤ i → i < s → e ≤ j → j < b → key (D i) ≤ key (D j)
theorem Halved.four {key : Gel → Int} {D E : Nat → Gel} {a m b mid s e : Nat} (h : Halved key D a m b mid s e) (hA : SrtOn key D a m) (hB : SrtOn key D m b) (hE : ∀ i, E i = rot D s m e i) : SrtOn key E a s ∧ SrtOn key E s mid ∧ SrtOn key E mid e ∧ SrtOn key E e b := by
  obtain ⟨h1, h2, h3, h4, h5, _, _⟩ := h
  have w1 : ∀ i, i < s → E i = D i := fun i g => (hE i).trans (rot_out D h2 h3 (.inl g))
  have w2 : ∀ i, s ≤ i → i < mid → E i = D (m + (i - s)) := fun i g1 g2 => by
    have := rot_fst D h2 h3 (i := i - s) (by omega)
    rw [show s + (i - s) = i by omega] at this
    exact (hE i).trans this
  have w3 : ∀ i, mid ≤ i → i < e → E i = D (s + (i - mid)) := fun i g1 g2 => by
    have := rot_snd D h2 h3 (i := i - mid) (by omega)
    rw [show s + (e - m) + (i - mid) = i by omega] at this
    exact (hE i).trans this
  have w4 : ∀ i, e ≤ i → E i = D i := fun i g => (hE i).trans (rot_out D h2 h3 (.inr g))
  refine ⟨fun i j g1 g2 g3 => ?_, fun i j g1 g2 g3 => ?_, fun i j g1 g2 g3 => ?_, fun i j g1 g2 g3 => ?_⟩
  · rw [w1 i (by omega), w1 j g3]; exact hA i j g1 g2 (by omega)
  · rw [w2 i g1 (by omega), w2 j (by omega) g3]; exact hB _ _ (by omega) (by omega) (by omega)
  · rw [w3 i g1 (by omega), w3 j (by omega) g3]; exact hA _ _ (by omega) (by omega) (by omega)
  · rw [w4 i g1, w4 j (by omega)]; exact hB _ _ (by omega) g2 g3
theorem halved {key : Gel → Int} {D : Nat → Gel} {a m b mid s0 r0 s : Nat} (ham : a < m) (hmb : m < b) (hmid : mid = (a + b) / 2) (hA : SrtOn key D a m) (hB : SrtOn key D m b)
    (hc : (m > mid ∧ s0 + b = mid + m ∧ r0 = mid) ∨ (¬ m > mid ∧ s0 = a ∧ r0 = m)) (hs1 : s0 ≤ s) (hs2 : s ≤ r0)
    (hlo : ∀ z, s0 ≤ z → z < s → key (D z) ≤ key (D (mid + m - 1 - z))) (hhi : ∀ z, s ≤ z → z < r0 → key (D (mid + m - 1 - z)) < key (D z)) : Halved key D a m b mid s (mid + m - s) := by
  have g1 : a ≤ s0 := by omega
  have g2 : r0 ≤ m := by omega
  have g3 : r0 ≤ mid := by omega
  refine ⟨by omega, by omega, by omega, by omega, by omega, ?_, ?_⟩
  · intro i j h1 h2 h3 h4
    by_cases c : s < r0
    · have k1 := hhi s (Nat.le_refl _) c
      have k2 : key (D j) ≤ key (D (mid + m - 1 - s)) := hB j _ h3 (by omega) (by omega)
      have k3 : key (D s) ≤ key (D i) := hA s i (by omega) h1 h2
      omega
    · omega
  · intro i j h1 h2 h3 h4
    by_cases c : s0 < s
    · have k1 := hlo (s - 1) (by omega) (by omega)
      rw [show mid + m - 1 - (s - 1) = mid + m - s by omega] at k1
      have k2 : key (D i) ≤ key (D (s - 1)) := hA i _ h1 (by omega) (by omega)
      have k3 : key (D (mid + m - s)) ≤ key (D j) := hB _ j (by omega) h3 h4
      omega
    · omega

set_option maxRecDepth 100000 in
set_option maxHeartbeats 16000000 in
theorem symBoth_any (g N cap a m b : Nat) (D : Nat → Gel) (fn : FuncId) (cp : Value) (key : Gel → Int) (W0 W : World) (hC : CmpC fn cp key W0 g) (hG : W0.grownBy W (some g)) (h : RowF W g N D) (ham : a < m) (hmb : m < b) (hb : b ≤ N) (hN : N ≤ 100000) (hA : SrtOn key D a m) (hB : SrtOn key D m b) (hna : ¬ m = a + 1) (hnb : ¬ b = m + 1) (sz : Nat) (hsz : sz = b - a) (IH : (∀ (a m b : Nat) (D : Nat → Gel) (W : World), b - a < sz → W0.grownBy W (some g) → RowF W g N D → a < m → m < b → b ≤ N → SrtOn key D a m → SrtOn key D m b →
    Calls Try.prog 38 #[.slice (some ⟨g, 0, none⟩) N cap, .int .i64 a, .int .i64 m, .int .i64 b, .func (.func fn) #[] #[cp]] W fun e w' => e = .returned (.tuple #[]) ∧ ∃ E, RowF w' g N E ∧ Moved key D E a b ∧ SrtOn key E a b ∧ W0.grownBy w' (some g))) :
    Calls Try.prog 38 #[.slice (some ⟨g, 0, none⟩) N cap, .int .i64 a, .int .i64 m, .int .i64 b, .func (.func fn) #[] #[cp]] W fun e w' => e = .returned (.tuple #[]) ∧ ∃ E, RowF w' g N E ∧ Moved key D E a b ∧ SrtOn key E a b ∧ W0.grownBy w' (some g) := by
  have hcf := hC.enter
  have HC := Lib.hid hC
  have HR0 := Lib.hid h
  have HG0 := Lib.hid hG
  have HSA := Lib.hid hA
  have HSB := Lib.hid hB
  have HIH := Lib.hid IH
  have HSZ := Lib.hid hsz
  have hma : ¬ (m : Int) - (a : Int) = 1 := by omega
  have hmab : (((m : Int) - (a : Int)) == 1) = false := by simpa using hma
  have hbm : ¬ (b : Int) - (m : Int) = 1 := by omega
  have hbmb : (((b : Int) - (m : Int)) == 1) = false := by simpa using hbm
  obtain ⟨mid, hmid⟩ : ∃ mid : Nat, ((a : Int) + b) / 2 = (mid : Int) := ⟨(a + b) / 2, by omega⟩
  have HMID := Lib.hid (show mid = (a + b) / 2 by omega)
  obtain ⟨n, hn⟩ : ∃ n : Nat, n = mid + m := ⟨_, rfl⟩
  have hni : (mid : Int) + (m : Int) = n := by omega
  have hab : a < mid := by omega
  have hmb2 : mid < b := by omega
  have HNN := Lib.hid hn
  clear hC h hG hA hB IH hna hnb hn hsz
  go_enter Try.func38, Try.ntmps38
  go_upto_if 140 with fail
  clear hmid
  go_cut [20, 21] (fun v20 v21 wx => W = wx ∧ ∃ s0 r0 : Nat, v20 = .int .i64 s0 ∧ v21 = .int .i64 r0 ∧ ((m > mid ∧ s0 + b = mid + m ∧ r0 = mid) ∨ (¬ m > mid ∧ s0 = a ∧ r0 = m)))
  case first => as_aux_lemma =>
    by_cases hg : m > mid
    · have hgi : (mid : Int) < m := by omega
      have hnb2 : (n : Int) - (b : Int) = ((n - b : Nat) : Int) := by have := HMID.out; have := HNN.out; omega
      go_wp2_with fail
      all_goals first
        | (exfalso; omega)
        | (go_meet; exact ⟨rfl, n - b, mid, by go_num, rfl, .inl ⟨hg, by have := HMID.out; have := HNN.out; omega, rfl⟩⟩)
    · have hgi : ¬ (mid : Int) < m := by omega
      go_wp2_with fail
      all_goals first
        | (exfalso; omega)
        | (go_meet; exact ⟨rfl, a, m, rfl, rfl, .inr ⟨hg, rfl, rfl⟩⟩)
  case rest =>
  obtain ⟨rfl, s0, r0, rfl, rfl, hcs⟩ := hcut
  have HCS := Lib.hid hcs
  have hsr : s0 ≤ r0 := by have := HMID.out; omega
  have hrm : r0 ≤ m := by omega
  have has : a ≤ s0 := by have := HMID.out; omega
  have hpb : ∀ z, s0 ≤ z → z < r0 → m ≤ n - 1 - z ∧ n - 1 - z < b ∧ z < m := fun z h1 h2 => by have := HMID.out; have := HNN.out; omega
  have HPB := Lib.hid hpb
  obtain ⟨pp, hpp⟩ : ∃ pp : Nat, n = pp + 1 := ⟨n - 1, by have := HNN.out; omega⟩
  have hppi : (n : Int) - 1 = pp := by omega
  have HPP := Lib.hid hpp
  clear hcs hpb hpp
  go_wp2_with fail
  go_loopw [20, 21] (fun vi vj wr => ∃ s r : Nat, s0 ≤ s ∧ s ≤ r ∧ r ≤ r0 ∧ vi = .int .i64 s ∧ vj = .int .i64 r ∧ Hid (∀ z, s0 ≤ z → z < s → key (D z) ≤ key (D (mid + m - 1 - z))) ∧ Hid (∀ z, r ≤ z → z < r0 → key (D (mid + m - 1 - z)) < key (D z)) ∧ Hid (RowF wr g N D) ∧ Hid (W0.grownBy wr (some g))) (fun vi vj _ => (intOf vj).toNat - (intOf vi).toNat)
  case atStart => exact ⟨s0, r0, Nat.le_refl _, hsr, Nat.le_refl _, rfl, rfl, Lib.hid (fun z h1 h2 => by omega), Lib.hid (fun z h1 h2 => by omega), HR0, HG0⟩
  case round =>
    obtain ⟨s, r, hs0, hsr2, hr0, rfl, rfl, HLO, HHI, HR, HG⟩ := hrel
    by_cases hlt : s < r
    · have hlti : (s : Int) < r := by omega
      obtain ⟨ct, hct⟩ : ∃ ct : Nat, ((s : Int) + r) / 2 = (ct : Int) := ⟨(s + r) / 2, by omega⟩
      have hc1 : s ≤ ct := by omega
      have hc2 : ct < r := by omega
      obtain ⟨q1, q2, q3⟩ := HPB.out ct (by omega) (by omega)
      obtain ⟨u, hu⟩ : ∃ u : Nat, u = n - 1 - ct := ⟨_, rfl⟩
      have hpq := HPP.out
      have hui : (pp : Int) - (ct : Int) = u := by omega
      have hctn : ct < N := by omega
      have hctz : (ct : Int) < N := by omega
      have hun : u < N := by omega
      have huz : (u : Int) < N := by omega
      have hwu : IntKind.i64.wrap (u : Int) = u := IntWalk.i64_in _ (by omega)
      have HU := Lib.hid (show mid + m - 1 - ct = u by rw [hu, HNN.out])
      clear hu q1 q2 q3 hpq
      have hgl := HR.out.lt
      have HP := HR.out.elem hun
      have HQ := HR.out.elem hctn
      have KP := Lib.hid (fun W' (hb : Below wr.heap.size wr W') => show W'.cell? ⟨g, u * 5, none⟩ = some (.int .i64 (D u).n) ∧ W'.cell? ⟨g, u * 5 + 1, none⟩ = some (.string (D u).name) ∧ W'.cell? ⟨g, u * 5 + 2, none⟩ = some (.int .i64 (D u).r) ∧ W'.cell? ⟨g, u * 5 + 3, none⟩ = some (.int .i64 (D u).g) ∧ W'.cell? ⟨g, u * 5 + 4, none⟩ = some (.int .i64 (D u).b) ∧ W'.cell? ⟨g, ct * 5, none⟩ = some (.int .i64 (D ct).n) ∧ W'.cell? ⟨g, ct * 5 + 1, none⟩ = some (.string (D ct).name) ∧ W'.cell? ⟨g, ct * 5 + 2, none⟩ = some (.int .i64 (D ct).r) ∧ W'.cell? ⟨g, ct * 5 + 3, none⟩ = some (.int .i64 (D ct).g) ∧ W'.cell? ⟨g, ct * 5 + 4, none⟩ = some (.int .i64 (D ct).b) from ⟨(hb.cell (p := ⟨g, u * 5, none⟩) hgl).trans HP.c0, (hb.cell (p := ⟨g, u * 5 + 1, none⟩) hgl).trans HP.c1, (hb.cell (p := ⟨g, u * 5 + 2, none⟩) hgl).trans HP.c2, (hb.cell (p := ⟨g, u * 5 + 3, none⟩) hgl).trans HP.c3, (hb.cell (p := ⟨g, u * 5 + 4, none⟩) hgl).trans HP.c4, (hb.cell (p := ⟨g, ct * 5, none⟩) hgl).trans HQ.c0, (hb.cell (p := ⟨g, ct * 5 + 1, none⟩) hgl).trans HQ.c1, (hb.cell (p := ⟨g, ct * 5 + 2, none⟩) hgl).trans HQ.c2, (hb.cell (p := ⟨g, ct * 5 + 3, none⟩) hgl).trans HQ.c3, (hb.cell (p := ⟨g, ct * 5 + 4, none⟩) hgl).trans HQ.c4⟩)
      obtain ⟨x, hx⟩ : ∃ x, D u = x := ⟨_, rfl⟩
      obtain ⟨y, hy⟩ : ∃ y, D ct = y := ⟨_, rfl⟩
      obtain ⟨bk, hbk⟩ : ∃ bk : Bool, (bk = true ↔ key x < key y) := ⟨decide (key x < key y), by simp⟩
      have HBK := Lib.hid (show bk = true ↔ key (D u) < key (D ct) by rw [hx, hy]; exact hbk)
      rw [hx, hy] at KP
      rw [hx] at HP
      rw [hy] at HQ
      clear hx hy
      have c0 := HP.c0
      have f0 := HP.f0
      have c1 := HP.c1
      have f1 := HP.f1
      have c2 := HP.c2
      have f2 := HP.f2
      have c3 := HP.c3
      have f3 := HP.f3
      have c4 := HP.c4
      have f4 := HP.f4
      have d0 := HQ.c0
      have e0 := HQ.f0
      have d1 := HQ.c1
      have e1 := HQ.f1
      have d2 := HQ.c2
      have e2 := HQ.f2
      have d3 := HQ.c3
      have e3 := HQ.f3
      have d4 := HQ.c4
      have e4 := HQ.f4
      clear HP HQ
      go_upto_region 35 with fail
      go_cut [171] (fun s wx => s = .bool (!bk) ∧ Hid (Below wr.heap.size wr wx))
      case first => as_aux_lemma =>
        cases bk
        · have hk : ¬ key x < key y := fun h => by have := hbk.2 h; cases this
          have HC1 := Lib.hid (HC.out.no hk (show W0.grownBy wr.drew (some g) from ⟨HG.out.os, HG.out.tape, HG.out.output, HG.out.size, HG.out.block⟩))
          have HC0 := Lib.hid (HC.out.no hk HG.out)
          clear hk hbk
          go_upto_region 35 with fail
          go_region_held3 (fun W' => W'.cell? ⟨g, u * 5, none⟩ = some (.int .i64 x.n) ∧ W'.cell? ⟨g, u * 5 + 1, none⟩ = some (.string x.name) ∧ W'.cell? ⟨g, u * 5 + 2, none⟩ = some (.int .i64 x.r) ∧ W'.cell? ⟨g, u * 5 + 3, none⟩ = some (.int .i64 x.g) ∧ W'.cell? ⟨g, u * 5 + 4, none⟩ = some (.int .i64 x.b) ∧ W'.cell? ⟨g, ct * 5, none⟩ = some (.int .i64 y.n) ∧ W'.cell? ⟨g, ct * 5 + 1, none⟩ = some (.string y.name) ∧ W'.cell? ⟨g, ct * 5 + 2, none⟩ = some (.int .i64 y.r) ∧ W'.cell? ⟨g, ct * 5 + 3, none⟩ = some (.int .i64 y.g) ∧ W'.cell? ⟨g, ct * 5 + 4, none⟩ = some (.int .i64 y.b))
            (exact KP.out _ (by repeat' first | (with_reducible assumption) | (with_reducible exact Below.refl _ _) | (with_reducible refine Below.drew ?_)))
            (first
              | ((with_reducible refine HC1.out.mono ?_); rintro e wz ⟨c, rfl, hcn, hbz⟩; have hwz : Below wr.heap.size wr wz := ⟨hbz.os, hbz.tape, hbz.output, hbz.size, hbz.block⟩)
              | ((with_reducible refine HC0.out.mono ?_); rintro e wz ⟨c, rfl, hcn, hwz⟩)
              | fail)
          all_goals go_wp2_with fail
          all_goals go_meet
          all_goals exact ⟨by first | rw [decide_eq_false hcn] | rw [decide_eq_true hcn] | rw [decide_eq_false (by omega)] | (rw [decide_eq_false hcn]; rfl) | (rw [decide_eq_true hcn]; rfl) | (rw [decide_eq_false (by omega)]; rfl) | simp [hcn] | rfl, Lib.hid (by first | exact hwz | exact hwz.drew)⟩
        · have hk : key x < key y := hbk.1 rfl
          have HC1 := Lib.hid (HC.out.yes hk (show W0.grownBy wr.drew (some g) from ⟨HG.out.os, HG.out.tape, HG.out.output, HG.out.size, HG.out.block⟩))
          have HC0 := Lib.hid (HC.out.yes hk HG.out)
          clear hk hbk
          go_upto_region 35 with fail
          go_region_held3 (fun W' => W'.cell? ⟨g, u * 5, none⟩ = some (.int .i64 x.n) ∧ W'.cell? ⟨g, u * 5 + 1, none⟩ = some (.string x.name) ∧ W'.cell? ⟨g, u * 5 + 2, none⟩ = some (.int .i64 x.r) ∧ W'.cell? ⟨g, u * 5 + 3, none⟩ = some (.int .i64 x.g) ∧ W'.cell? ⟨g, u * 5 + 4, none⟩ = some (.int .i64 x.b) ∧ W'.cell? ⟨g, ct * 5, none⟩ = some (.int .i64 y.n) ∧ W'.cell? ⟨g, ct * 5 + 1, none⟩ = some (.string y.name) ∧ W'.cell? ⟨g, ct * 5 + 2, none⟩ = some (.int .i64 y.r) ∧ W'.cell? ⟨g, ct * 5 + 3, none⟩ = some (.int .i64 y.g) ∧ W'.cell? ⟨g, ct * 5 + 4, none⟩ = some (.int .i64 y.b))
            (exact KP.out _ (by repeat' first | (with_reducible assumption) | (with_reducible exact Below.refl _ _) | (with_reducible refine Below.drew ?_)))
            (first
              | ((with_reducible refine HC1.out.mono ?_); rintro e wz ⟨c, rfl, hcn, hbz⟩; have hwz : Below wr.heap.size wr wz := ⟨hbz.os, hbz.tape, hbz.output, hbz.size, hbz.block⟩)
              | ((with_reducible refine HC0.out.mono ?_); rintro e wz ⟨c, rfl, hcn, hwz⟩)
              | fail)
          all_goals go_wp2_with fail
          all_goals go_meet
          all_goals exact ⟨by first | rw [decide_eq_false hcn] | rw [decide_eq_true hcn] | rw [decide_eq_false (by omega)] | (rw [decide_eq_false hcn]; rfl) | (rw [decide_eq_true hcn]; rfl) | (rw [decide_eq_false (by omega)]; rfl) | simp [hcn] | rfl, Lib.hid (by first | exact hwz | exact hwz.drew)⟩
      case rest =>
      obtain ⟨rfl, HBZ⟩ := hcut
      obtain ⟨wz, rfl⟩ : ∃ z, z = wc := ⟨wc, rfl⟩
      have HGZ := Lib.hid (grown_below HG.out HBZ.out)
      have HRZ := Lib.hid (HR.out.below HBZ.out)
      clear c0 f0 d0 e0 c1 f1 d1 e1 c2 f2 d2 e2 c3 f3 d3 e3 c4 f4 d4 e4 KP HG HR hbk hgl
      cases bk
      · have hk : ¬ key (D u) < key (D ct) := fun k => by have := HBK.out.2 k; cases this
        have HL2 := Lib.hid (show ∀ z, s0 ≤ z → z < ct + 1 → key (D z) ≤ key (D (mid + m - 1 - z)) from fun z h1 h2 => by
          obtain ⟨p1, p2, p3⟩ := HPB.out z h1 (by omega)
          obtain ⟨p4, p5, p6⟩ := HPB.out ct (by omega) (by omega)
          rw [HNN.out] at p1 p2 p4 p5
          have k1 : key (D z) ≤ key (D ct) := HSA.out z ct (by omega) (by omega) p6
          have k2 : key (D u) ≤ key (D (mid + m - 1 - z)) := by
            rw [← HU.out]
            exact HSB.out _ _ p4 (by omega) p2
          omega)
        clear hk HBK hct
        go_wp2_with fail
        go_roundw
        case rel => exact ⟨ct + 1, r, by omega, by omega, hr0, by go_num, rfl, HL2, HHI, HRZ, HGZ⟩
        case measure => simp [intOf]; omega
      · have hk : key (D u) < key (D ct) := HBK.out.1 rfl
        have HH2 := Lib.hid (show ∀ z, ct ≤ z → z < r0 → key (D (mid + m - 1 - z)) < key (D z) from fun z h1 h2 => by
          obtain ⟨p1, p2, p3⟩ := HPB.out z (by omega) h2
          obtain ⟨p4, p5, p6⟩ := HPB.out ct (by omega) (by omega)
          rw [HNN.out] at p1 p2 p4 p5
          have k1 : key (D ct) ≤ key (D z) := HSA.out ct z (by omega) h1 p3
          have k2 : key (D (mid + m - 1 - z)) ≤ key (D u) := by
            rw [← HU.out]
            exact HSB.out _ _ p1 (by omega) p5
          omega)
        clear hk HBK hct
        go_wp2_with fail
        go_roundw
        case rel => exact ⟨s, ct, hs0, hc1, by omega, rfl, rfl, HLO, HH2, HRZ, HGZ⟩
        case measure => simp [intOf]; omega
    · obtain rfl : s = r := by omega
      have hnl : ¬ (s : Int) < s := by omega
      have hHV := halved ham hmb HMID.out HSA.out HSB.out HCS.out hs0 hr0 HLO.out HHI.out
      obtain ⟨e, he⟩ : ∃ e : Nat, e = mid + m - s := ⟨_, rfl⟩
      rw [← he] at hHV
      have hei : (n : Int) - (s : Int) = e := by have := HNN.out; omega
      have HV := Lib.hid hHV
      obtain ⟨v1, v2, v3, v4, v5, _, _⟩ := hHV
      have v6 : mid ≤ e := by omega
      have v7 : s ≤ mid := by omega
      have HV5 := Lib.hid v5
      clear v5
      clear HLO HHI HPB HCS he HR0 HG0
      have hsn : s < N := by omega
      have hen : e ≤ N := by omega
      obtain ⟨cb1, hcb1⟩ : ∃ cb1 : Bool, (cb1 = true ↔ s < m ∧ m < e) := ⟨decide (s < m ∧ m < e), by simp⟩
      have Hcb1 := Lib.hid hcb1
      clear hcb1
      go_upto_region 39 with fail
      go_cut [185] (fun s wx => s = .bool cb1 ∧ wr = wx)
      case first => as_aux_lemma =>
        by_cases t1 : s < m
        · have t1i : (s : Int) < m := by omega
          by_cases t2 : m < e
          · have t2i : (m : Int) < e := by omega
            have hv : cb1 = true := Hcb1.out.2 ⟨t1, t2⟩
            go_wp2_with fail
            go_meet
            exact ⟨by rw [hv], rfl⟩
          · have t2i : ¬ (m : Int) < e := by omega
            have hv : cb1 = false := by
              cases h : cb1
              · rfl
              · exact absurd (Hcb1.out.1 h).2 t2
            go_wp2_with fail
            go_meet
            exact ⟨by rw [hv], rfl⟩
        · have t1i : ¬ (s : Int) < m := by omega
          have hv : cb1 = false := by
            cases h : cb1
            · rfl
            · exact absurd (Hcb1.out.1 h).1 t1
          go_wp2_with fail
          go_meet
          exact ⟨by rw [hv], rfl⟩
      case rest =>
      obtain ⟨rfl, rfl⟩ := hcut
      go_upto_if 185 with fail
      go_cut [] (fun wx => ∃ E : Nat → Gel, Hid (∀ i, E i = rot D s m e i) ∧ Hid (RowF wx g N E) ∧ Hid (W0.grownBy wx (some g)))
      case first => as_aux_lemma =>
        cases cb1
        · have hq : m = s ∨ m = e := by
            have : ¬ (s < m ∧ m < e) := fun h => by have := Hcb1.out.2 h; cases this
            omega
          have HQ := Lib.hid (show ∀ i, D i = rot D s m e i from fun i => (rot_none hq v2 v3 i).symm)
          clear hq
          go_wp2_with fail
          go_meet
          exact ⟨D, HQ, HR, HG⟩
        · obtain ⟨t1, t2⟩ := Hcb1.out.1 rfl
          have CR := Lib.hid (rotate_any g N cap s m e D (.func (.func fn) #[] #[cp]) wr HR.out t1 t2 hen hN)
          go_wp2_with fail
          refine CR.out.mono ?_
          rintro e1 w' ⟨rfl, h1, h2⟩
          have HRW := Lib.hid h1
          have HGW := Lib.hid (grown_trans HG.out h2)
          clear h1 h2 CR
          go_wp2_with fail
          go_meet
          exact ⟨_, Lib.hid (fun _ => rfl), HRW, HGW⟩
      case rest =>
      obtain ⟨E, HE, HRE, HGE⟩ := hcut
      obtain ⟨wq, rfl⟩ : ∃ z, z = wc := ⟨wc, rfl⟩
      obtain ⟨A1, A2, B1, B2⟩ := HV.out.four HSA.out HSB.out HE.out
      have HA1 := Lib.hid A1
      have HA2 := Lib.hid A2
      have HB1 := Lib.hid B1
      have HB2 := Lib.hid B2
      clear A1 A2 B1 B2 HR HG
      obtain ⟨cb2, hcb2⟩ : ∃ cb2 : Bool, (cb2 = true ↔ a < s ∧ s < mid) := ⟨decide (a < s ∧ s < mid), by simp⟩
      have Hcb2 := Lib.hid hcb2
      clear hcb2
      go_upto_region 41 with fail
      go_cut [199] (fun s wx => s = .bool cb2 ∧ wq = wx)
      case first => as_aux_lemma =>
        by_cases t1 : a < s
        · have t1i : (a : Int) < s := by omega
          by_cases t2 : s < mid
          · have t2i : (s : Int) < mid := by omega
            have hv : cb2 = true := Hcb2.out.2 ⟨t1, t2⟩
            go_wp2_with fail
            go_meet
            exact ⟨by rw [hv], rfl⟩
          · have t2i : ¬ (s : Int) < mid := by omega
            have hv : cb2 = false := by
              cases h : cb2
              · rfl
              · exact absurd (Hcb2.out.1 h).2 t2
            go_wp2_with fail
            go_meet
            exact ⟨by rw [hv], rfl⟩
        · have t1i : ¬ (a : Int) < s := by omega
          have hv : cb2 = false := by
            cases h : cb2
            · rfl
            · exact absurd (Hcb2.out.1 h).1 t1
          go_wp2_with fail
          go_meet
          exact ⟨by rw [hv], rfl⟩
      case rest =>
      obtain ⟨rfl, rfl⟩ := hcut
      go_upto_if 199 with fail
      go_cut [] (fun wx => ∃ F : Nat → Gel, Hid (Moved key E F a mid) ∧ Hid (SrtOn key F a mid) ∧ Hid (RowF wx g N F) ∧ Hid (W0.grownBy wx (some g)))
      case first => as_aux_lemma =>
        cases cb2
        · have hq : s = a ∨ mid = s := by
            have : ¬ (a < s ∧ s < mid) := fun h => by have := Hcb2.out.2 h; cases this
            omega
          have HS := Lib.hid (show SrtOn key E a mid by
            rcases hq with hq | hq
            · rw [← hq]; exact HA2.out
            · rw [hq]; exact HA1.out)
          clear hq
          go_wp2_with fail
          go_meet
          exact ⟨E, Lib.hid (Moved.refl E a mid), HS, HRE, HGE⟩
        · obtain ⟨t1, t2⟩ := Hcb2.out.1 rfl
          have CR := Lib.hid (HIH.out a s mid E wq (by have := HSZ.out; omega) HGE.out HRE.out t1 t2 (by omega) HA1.out HA2.out)
          go_wp2_with fail
          refine CR.out.mono ?_
          rintro e1 w' ⟨rfl, F, h1, h2, h3, h4⟩
          have HRW := Lib.hid h1
          have HMW := Lib.hid h2
          have HSW := Lib.hid h3
          have HGW := Lib.hid h4
          clear h1 h2 h3 h4 CR
          go_wp2_with fail
          go_meet
          exact ⟨F, HMW, HSW, HRW, HGW⟩
      case rest =>
      obtain ⟨F, HMF, HSF, HRF, HGF⟩ := hcut
      obtain ⟨wf, rfl⟩ : ∃ z, z = wc := ⟨wc, rfl⟩
      have HB3 := Lib.hid (HB1.out.congr (E := F) fun i h1 _ => HMF.out.out i (.inr h1))
      have HB4 := Lib.hid (HB2.out.congr (E := F) fun i h1 _ => HMF.out.out i (.inr (by omega)))
      clear HB1 HB2 HA1 HA2 HRE HGE
      obtain ⟨cb3, hcb3⟩ : ∃ cb3 : Bool, (cb3 = true ↔ mid < e ∧ e < b) := ⟨decide (mid < e ∧ e < b), by simp⟩
      have Hcb3 := Lib.hid hcb3
      clear hcb3
      go_upto_region 43 with fail
      go_cut [213] (fun s wx => s = .bool cb3 ∧ wf = wx)
      case first => as_aux_lemma =>
        by_cases t1 : mid < e
        · have t1i : (mid : Int) < e := by omega
          by_cases t2 : e < b
          · have t2i : (e : Int) < b := by omega
            have hv : cb3 = true := Hcb3.out.2 ⟨t1, t2⟩
            go_wp2_with fail
            go_meet
            exact ⟨by rw [hv], rfl⟩
          · have t2i : ¬ (e : Int) < b := by omega
            have hv : cb3 = false := by
              cases h : cb3
              · rfl
              · exact absurd (Hcb3.out.1 h).2 t2
            go_wp2_with fail
            go_meet
            exact ⟨by rw [hv], rfl⟩
        · have t1i : ¬ (mid : Int) < e := by omega
          have hv : cb3 = false := by
            cases h : cb3
            · rfl
            · exact absurd (Hcb3.out.1 h).1 t1
          go_wp2_with fail
          go_meet
          exact ⟨by rw [hv], rfl⟩
      case rest =>
      obtain ⟨rfl, rfl⟩ := hcut
      go_upto_if 213 with fail
      cases cb3
      · have hq : mid = e ∨ e = b := by
          have : ¬ (mid < e ∧ e < b) := fun h => by have := Hcb3.out.2 h; cases this
          omega
        have hs9 : SrtOn key F mid b := by
          rcases hq with hq | hq
          · rw [hq]; exact HB4.out
          · rw [← hq]; exact HB3.out
        obtain ⟨m9, s9⟩ := merge_ok v1 v2 v3 v4 HV5.out HSA.out HSB.out HV.out.lo HV.out.hi HE.out HMF.out HSF.out (Moved.refl F mid b) hs9
        have HM9 := Lib.hid m9
        have HS9 := Lib.hid s9
        clear m9 s9 hs9 hq
        go_wp2_with fail
        go_end0
        exact ⟨rfl, F, HRF.out, HM9.out, HS9.out, HGF.out⟩
      · obtain ⟨t1, t2⟩ := Hcb3.out.1 rfl
        have CR := Lib.hid (HIH.out mid e b F wf (by have := HSZ.out; omega) HGF.out HRF.out t1 t2 (by omega) HB3.out HB4.out)
        go_wp2_with fail
        refine CR.out.mono ?_
        rintro e1 w' ⟨rfl, G, h1, h2, h3, h4⟩
        obtain ⟨m9, s9⟩ := merge_ok v1 v2 v3 v4 HV5.out HSA.out HSB.out HV.out.lo HV.out.hi HE.out HMF.out HSF.out h2 h3
        have HM9 := Lib.hid m9
        have HS9 := Lib.hid s9
        have HRW := Lib.hid h1
        have HGW := Lib.hid h4
        clear m9 s9 h1 h2 h3 h4 CR
        go_wp2_with fail
        go_end0
        exact ⟨rfl, G, HRW.out, HM9.out, HS9.out, HGW.out⟩
end Go.Proofs.Ytpmiinamaofnnaa
