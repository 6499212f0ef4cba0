/- The reference's carried. (printed by wip/gen/gen_rcarried.py) -/
import Derived.Test.YtabalicembhjmaaT33M18
import Derived.Test.YtabalicembhjmaaT33M16
import Derived.Test.YtabalicembhjmaaT33M40
import Derived.Test.YtabalicembhjmaaT33M41

namespace Go.Proofs.Ytabalicembhjmaa
open Go.RowKit
set_option linter.unusedVariables false
set_option linter.unusedSimpArgs false

theorem isQ_up3 {d : Nat} {p : Int} {w w' : World} {v : Value} (h : IsQ w.heap.size w v p d) (hb : Below w.heap.size w w') : IsQ w'.heap.size w' v p d := (h.below hb).more hb.size
theorem car_round {bl : Int} {m k9 : Nat} (h0 : 0 ≤ bl) (h1 : bl ≤ 65535) (hm : m ≤ 4294836225) (hk : 0 < k9) (hk9 : k9 ≤ 65535) (hmk : m ≤ 65535 * k9) :
    (Sm bl 1 ∧ Sm ((m : Nat) : Int) k9 ∧ Sm (bl * (k9 : Int) + ((m : Nat) : Int) * ((1 : Nat) : Int)) (1 * k9)) ∧ ∀ (W : World) (v : Value), IsQ W.heap.size W v (bl * (k9 : Int) + ((m : Nat) : Int) * ((1 : Nat) : Int)) (1 * k9) → Calls Try.prog 87 #[v] W fun e w' => e = .returned (.int .i64 (rnd (bl * (k9 : Int) + (m : Int)) (k9 : Int))) ∧ Below W.heap.size W w' := by
  obtain ⟨b, rfl⟩ : ∃ b : Nat, bl = (b : Int) := ⟨bl.toNat, by omega⟩
  have hB : ∀ x : Nat, x ≤ 70000 → x < BB ^ 4 := fun x hx => Nat.lt_of_le_of_lt hx (by decide)
  have hbk : b * k9 ≤ 65535 * k9 := Nat.mul_le_mul_right _ (by omega)
  have e : (b : Int) * (k9 : Int) + ((m : Nat) : Int) * ((1 : Nat) : Int) = ((b * k9 + m : Nat) : Int) := by
    rw [Int.natCast_add, Int.natCast_mul]
    omega
  have e2 : (b : Int) * (k9 : Int) + (m : Int) = ((b * k9 + m : Nat) : Int) := by
    rw [Int.natCast_add, Int.natCast_mul]
  refine ⟨⟨sm_ofO (e := 1) (by omega) (by omega) (by decide), sm_ofO (e := k9) (by omega) (by omega) (hB k9 (by omega)), ?_⟩, fun W v hq => ?_⟩
  · rw [e]
    exact sm_ofO (e := k9) (by omega) (by omega) (hB k9 (by omega))
  · rw [e] at hq
    rw [e2, ← rndQ_rndO]
    rw [Nat.one_mul] at hq
    exact roundQ W.heap.size k9 ((b * k9 + m : Nat) : Int) v W (Nat.le_refl _) (sm_ofO (e := k9) (by omega) (by omega) (hB k9 (by omega))) (sm_ofO (e := k9) (by omega) (by omega) (hB k9 (by omega))) hk (by
      have h1 : (((b * k9 + m : Nat) : Int) * 2 + (k9 : Int)).natAbs ≤ 262144 * (k9 * 2) := by omega
      have h2 := Nat.div_le_div_right (c := k9 * 2) h1
      rw [Nat.mul_div_cancel _ (by omega)] at h2
      omega) hq
def CarK (w : World) (X Y : Array Value) (W : World) : Prop := Below (w.heap.size + 2) ((w.alloc (.cells X 42)).alloc (.cells Y 42)) W
section
variable {w W W1 : World} {X Y : Array Value}
theorem CarK.start : CarK w X Y ((w.alloc (.cells X 42)).alloc (.cells Y 42)) := Below.refl _ _
theorem CarK.size (h : CarK w X Y W) : w.heap.size + 2 ≤ W.heap.size := by
  have := Below.size h
  simp at this
  omega
theorem CarK.bel (h : CarK w X Y W) : Below w.heap.size w W := (((Below.refl _ _).alloc (Nat.le_refl _) _).alloc (by simp) _).trans (Below.mono h (by omega))
theorem CarK.next (h : CarK w X Y W) (hb : Below W.heap.size W W1) : CarK w X Y W1 := Below.trans h (hb.mono h.size)
theorem CarK.x (h : CarK w X Y W) : TBox W w.heap.size 42 X := (Below.block h w.heap.size (by omega)).trans ((TBox.new w X 42).alloc _)
theorem CarK.y (h : CarK w X Y W) : TBox W (w.heap.size + 1) 42 Y := by
  have h1 := TBox.new (w.alloc (.cells X 42)) Y 42
  simp only [World.size_alloc] at h1
  exact (Below.block h (w.heap.size + 1) (by omega)).trans h1
end
theorem find_drop {α : Type} (p : α → Bool) {l : List α} {k : Nat} (hk : k < l.length) (hn : (l.take k).find? p = none) : (p l[k] = true → l.find? p = some l[k]) ∧ (p l[k] = false → (l.take (k + 1)).find? p = none) := by
  constructor
  · intro h
    calc l.find? p = (l.take k ++ l.drop k).find? p := by rw [List.take_append_drop]
      _ = (l.drop k).find? p := by rw [List.find?_append, hn]; rfl
      _ = (l[k] :: l.drop (k + 1)).find? p := by rw [← List.drop_eq_getElem_cons hk]
      _ = some l[k] := List.find?_cons_of_pos h
  · intro h
    rw [List.take_succ_eq_append_getElem hk, List.find?_append, hn]
    simp [h]
set_option maxRecDepth 100000 in
set_option maxHeartbeats 16000000 in
theorem rcarried_any (B : Nat) (xn yn : ByteArray) (xg xs xf xd yg ys yf yd n : Int) (xb yb : Bool) (xv yv : Value) (lo lq : List Rng) (w : World) (hBw : B ≤ w.heap.size) (hx : RngS B w xv lo) (hy : RngS B w yv lq) (ho : RngsOk lo) (hq : RngsOk lq) (n0 : 0 ≤ n) (n1 : n ≤ 65535) :
    Calls Try.prog 57 #[.agg #[.string xn, .int .i64 xg, .int .i64 xs, .int .i64 xf, .int .i64 xd, .bool xb, xv], .agg #[.string yn, .int .i64 yg, .int .i64 ys, .int .i64 yf, .int .i64 yd, .bool yb, yv], .int .i64 n] w fun e w' => e = .returned (.tuple #[.int .i64 (carV lo lq n).1, .bool (carV lo lq n).2]) ∧ Below w.heap.size w w' := by
  have HGX := Lib.hid (RngS.get hx)
  have HGY := Lib.hid (RngS.get hy)
  have HO := Lib.hid ho
  have HQ := Lib.hid hq
  have hlx := CellsS.len hx
  have hly := CellsS.len hy
  obtain ⟨xo, xc, rfl⟩ := rngS_shape hx
  obtain ⟨yo, yc, rfl⟩ := rngS_shape hy
  unfold maxLen at hlx hly
  clear hx hy ho hq
  have V1 := Lib.hid (fun h => @carV_none lo lq n h)
  have V2 := Lib.hid (fun h => @carV_out lo lq n h)
  have V3 := Lib.hid (fun a h1 h h2 => @carV_lost lo lq n a h1 h h2)
  have V4 := Lib.hid (fun a b h1 h h2 h3 => @carV_low lo lq n a b h1 h h2 h3)
  have V5 := Lib.hid (fun a b h1 h h2 h3 => @carV_way lo lq n a b h1 h h2 h3)
  generalize carV lo lq n = RES at *
  have HK0 := Lib.hid (CarK.start (w := w) (X := #[.string xn, .int .i64 xg, .int .i64 xs, .int .i64 xf, .int .i64 xd, .bool xb, .slice xo lo.length xc]) (Y := #[.string yn, .int .i64 yg, .int .i64 ys, .int .i64 yf, .int .i64 yd, .bool yb, .slice yo lq.length yc]))
  go_enter Try.func57, Try.ntmps57
  go_upto_region 1 with fail
  obtain ⟨w1, hw1⟩ : ∃ w1 : World, w1 = ((w.alloc (.cells #[.string xn, .int .i64 xg, .int .i64 xs, .int .i64 xf, .int .i64 xd, .bool xb, .slice xo lo.length xc] 42)).alloc (.cells #[.string yn, .int .i64 yg, .int .i64 ys, .int .i64 yf, .int .i64 yd, .bool yb, .slice yo lq.length yc] 42)) := ⟨_, rfl⟩
  rw [← hw1] at HK0 ⊢
  clear hw1
  have x6 := HK0.out.x.cell (i := 6) rfl
  have xl := HK0.out.x.lt
  have y6 := HK0.out.y.cell (i := 6) rfl
  have yl := HK0.out.y.lt
  go_cut [21] (fun s21 wx => s21 = .bool (decide (lo.length = 0 ∨ lq.length = 0)) ∧ wx = w1)
  case first =>
    by_cases h1 : lo.length = 0
    · have h2 : ((lo.length : Int) == 0) = true := by rw [h1]; rfl
      have HE := Lib.hid (show decide (lo.length = 0 ∨ lq.length = 0) = true from decide_eq_true (.inl h1))
      clear h1
      go_wp2_with fail
      all_goals go_meet
      all_goals exact ⟨by rw [HE.out] <;> rfl, rfl⟩
    · have h2 : ((lo.length : Int) == 0) = false := beq_eq_false_iff_ne.2 (by omega)
      by_cases h3 : lq.length = 0
      · have h4 : ((lq.length : Int) == 0) = true := by rw [h3]; rfl
        have HE := Lib.hid (show decide (lo.length = 0 ∨ lq.length = 0) = true from decide_eq_true (.inr h3))
        clear h1 h3
        go_wp2_with fail
        all_goals go_meet
        all_goals exact ⟨by rw [HE.out] <;> rfl, rfl⟩
      · have h4 : ((lq.length : Int) == 0) = false := beq_eq_false_iff_ne.2 (by omega)
        have HE := Lib.hid (show decide (lo.length = 0 ∨ lq.length = 0) = false from decide_eq_false (by omega))
        clear h1 h3
        go_wp2_with fail
        all_goals go_meet
        all_goals exact ⟨by rw [HE.out] <;> rfl, rfl⟩
  case rest =>
    obtain ⟨rfl, rfl⟩ := hcut
    by_cases h0 : lo.length = 0 ∨ lq.length = 0
    · have HR := Lib.hid (V1.out h0)
      have HBE := Lib.hid HK0.out.bel
      rw [decide_eq_true h0]
      clear V1 V2 V3 V4 V5
      go_wp2_with fail
      exact bodyPost_ret (v := .tuple #[.int .i64 n, .bool true]) (by simp [results, Try.results57, go_sem]) rfl ⟨by rw [HR.out], HBE.out⟩
    rw [decide_eq_false h0]
    have H0 := Lib.hid h0
    clear V1 h0
    go_wp2_with fail
    clear x6 xl y6 yl
    go_loopw [26] (fun i wx => ∃ k : Nat, k ≤ lo.length ∧ i = .int .i64 k ∧ Hid ((lo.take k).find? (holds n) = none) ∧ Hid (CarK w #[.string xn, .int .i64 xg, .int .i64 xs, .int .i64 xf, .int .i64 xd, .bool xb, .slice xo lo.length xc] #[.string yn, .int .i64 yg, .int .i64 ys, .int .i64 yf, .int .i64 yd, .bool yb, .slice yo lq.length yc] wx)) (fun i _ => lo.length - (intOf i).toNat)
    case atStart => exact ⟨0, Nat.zero_le _, rfl, Lib.hid (by simp), HK0⟩
    case round =>
      obtain ⟨k, hk, rfl, HN, HK⟩ := hrel
      obtain ⟨wo, rfl⟩ : ∃ wo : World, wo = wr := ⟨_, rfl⟩
      have hzo := HK.out.size
      by_cases hlt : k < lo.length
      · obtain ⟨b, off, cap', hsl, hbb, _, hc⟩ := HGX.out (by omega)
        injection hsl with hs1 hs2 hs3
        subst hs1
        subst hs3
        obtain ⟨d0, d1, d2⟩ := hc k hlt wo (HK.out.bel.mono hBw)
        have hbr : b < wo.heap.size := by omega
        have HFD := Lib.hid (find_drop (holds n) hlt HN.out)
        obtain ⟨hal, hah, hah2⟩ := HO.out _ (List.getElem_mem hlt)
        clear hc
        generalize hrk : lo[k] = rk at *
        clear hrk
        obtain ⟨al, ah, an⟩ := rk
        simp only at *
        obtain ⟨ab, hab⟩ : ∃ ab, ab = wo.heap.size := ⟨_, rfl⟩
        have hA := (Below.refl wo.heap.size wo).alloc (Nat.le_refl _) (.cells #[.int .i64 al, .int .i64 ah, .string an] 86)
        have HTA := Lib.hid (TBox.new wo #[.int .i64 al, .int .i64 ah, .string an] 86)
        have HKA := Lib.hid (HK.out.next hA)
        clear hA
        go_upto_region 6 with fail
        clear d0 d1 d2
        obtain ⟨wA, hwA⟩ : ∃ wA : World, wA = wo.alloc (.cells #[.int .i64 al, .int .i64 ah, .string an] 86) := ⟨_, rfl⟩
        rw [← hab] at HTA ⊢
        rw [← hwA] at HTA HKA ⊢
        clear hwA hab
        have a0 := HTA.out.cell (i := 0) rfl
        have a1 := HTA.out.cell (i := 1) rfl
        have a2 := HTA.out.cell (i := 2) rfl
        have hla := HTA.out.lt
        have hzA := HKA.out.size
        by_cases h1 : n < al
        · have HNX := Lib.hid (HFD.out.2 (by unfold holds; exact decide_eq_false (by simp only; omega)))
          clear HFD V2 V3 V4 V5
          go_wp2_with fail
          go_roundw
          case rel => first | exact ⟨k + 1, by omega, by first | rfl | go_num, HNX, HKA⟩ | ((repeat apply Exists.intro); refine ⟨⟨k + 1, by omega, by first | rfl | go_num, HNX, HKA⟩, ?_⟩; rfl)
          case measure => simp [intOf]; omega
        by_cases h2 : ah < n
        · have HNX := Lib.hid (HFD.out.2 (by unfold holds; exact decide_eq_false (by simp only; omega)))
          have h1' : al ≤ n := by omega
          clear HFD V2 V3 V4 V5
          go_wp2_with fail
          go_roundw
          case rel => first | exact ⟨k + 1, by omega, by first | rfl | go_num, HNX, HKA⟩ | ((repeat apply Exists.intro); refine ⟨⟨k + 1, by omega, by first | rfl | go_num, HNX, HKA⟩, ?_⟩; rfl)
          case measure => simp [intOf]; omega
        have HF1 := Lib.hid (HFD.out.1 (by unfold holds; exact decide_eq_true (by simp only; omega)))
        have hna : al ≤ n := by omega
        have hnh : n ≤ ah := by omega
        have W3 := Lib.hid (V3.out _ H0.out HF1.out)
        have W4 := Lib.hid (fun b => V4.out _ b H0.out HF1.out)
        have W5 := Lib.hid (fun b => V5.out _ b H0.out HF1.out)
        have y6 := HKA.out.y.cell (i := 6) rfl
        have yl := HKA.out.y.lt
        clear HFD V2 V3 V4 V5 h1 h2
        go_wp2_with fail
        clear y6 yl a0 a1 a2 hla
        go_loopw [43] (fun i wx => ∃ j : Nat, j ≤ lq.length ∧ i = .int .i64 j ∧ Hid ((lq.take j).find? (hasRn (Rng.nm ⟨al, ah, an⟩)) = none) ∧ Hid (Below wA.heap.size wA wx)) (fun i _ => lq.length - (intOf i).toNat)
        case atStart => exact ⟨0, Nat.zero_le _, rfl, Lib.hid (by simp), Lib.hid (Below.refl _ _)⟩
        case round =>
          obtain ⟨j, hj, rfl, HNJ, HBJ⟩ := hrel
          have HKJ := Lib.hid (HKA.out.next HBJ.out)
          have HTJ := Lib.hid (HTA.out.below HBJ.out)
          have hzj := HBJ.out.size
          by_cases hjl : j < lq.length
          · obtain ⟨b2, off2, cap2, hsl, hb2, _, hc⟩ := HGY.out (by omega)
            injection hsl with hs1 hs2 hs3
            subst hs1
            subst hs3
            obtain ⟨d0, d1, d2⟩ := hc j hjl wr (HKJ.out.bel.mono hBw)
            have hbr2 : b2 < wr.heap.size := by omega
            have HFJ := Lib.hid (find_drop (hasRn (Rng.nm ⟨al, ah, an⟩)) hjl HNJ.out)
            obtain ⟨hbl, hbh, hbh2⟩ := HQ.out _ (List.getElem_mem hjl)
            clear hc
            generalize hrk : lq[j] = rk at *
            clear hrk
            obtain ⟨bl, bh, bn⟩ := rk
            simp only at *
            obtain ⟨bb, hbb9⟩ : ∃ bb, bb = wr.heap.size := ⟨_, rfl⟩
            have hA := (Below.refl wr.heap.size wr).alloc (Nat.le_refl _) (.cells #[.int .i64 bl, .int .i64 bh, .string bn] 86)
            have HTB := Lib.hid (TBox.new wr #[.int .i64 bl, .int .i64 bh, .string bn] 86)
            have HTA2 := Lib.hid (HTJ.out.below hA)
            have HBB := Lib.hid (HBJ.out.trans (hA.mono hzj))
            clear hA
            go_upto_region 10 with fail
            clear d0 d1 d2
            obtain ⟨wB, hwB⟩ : ∃ wB : World, wB = wr.alloc (.cells #[.int .i64 bl, .int .i64 bh, .string bn] 86) := ⟨_, rfl⟩
            rw [← hbb9] at HTB ⊢
            rw [← hwB] at HTB HTA2 HBB ⊢
            clear hwB hbb9
            have a0 := HTA2.out.cell (i := 0) rfl
            have a1 := HTA2.out.cell (i := 1) rfl
            have a2 := HTA2.out.cell (i := 2) rfl
            have hla := HTA2.out.lt
            have b0 := HTB.out.cell (i := 0) rfl
            have b1 := HTB.out.cell (i := 1) rfl
            have b2 := HTB.out.cell (i := 2) rfl
            have hlb := HTB.out.lt
            by_cases hnm : an = bn
            rotate_left
            · have h2 : ¬ an.toList = bn.toList := fun h => hnm (ByteArray.ext (Array.toList_inj.1 (by rw [← Lib.toList_data, ← Lib.toList_data]; exact h)))
              have h3 : (an.toList == bn.toList) = false := beq_eq_false_iff_ne.2 h2
              have HNX := Lib.hid (HFJ.out.2 (by unfold hasRn Rng.nm; exact decide_eq_false (by simp only; intro h; exact hnm (ByteArray.ext (Array.toList_inj.1 h.symm)))))
              clear HFJ W3 W4 W5 hnm
              go_wp2_with fail
              go_roundw
              case rel => first | exact ⟨j + 1, by omega, by first | rfl | go_num, HNX, HBB⟩ | ((repeat apply Exists.intro); refine ⟨⟨j + 1, by omega, by first | rfl | go_num, HNX, HBB⟩, ?_⟩; rfl)
              case measure => simp [intOf]; omega
            subst hnm
            have HF2 := Lib.hid (HFJ.out.1 (by unfold hasRn Rng.nm; exact decide_eq_true rfl))
            clear HFJ W3
            have HBE := Lib.hid (HKA.out.next HBB.out).bel
            by_cases hlh : al = ah
            · have HR := Lib.hid (W4.out _ HF2.out hlh)
              have hlh2 : (al == ah) = true := by simpa using hlh
              clear W4 W5
              go_wp2_with fail
              exact bodyPost_ret (v := .tuple #[.int .i64 bl, .bool true]) (by simp [results, Try.results57, go_sem]) rfl ⟨by rw [HR.out], HBE.out⟩
            · have HR := Lib.hid (W5.out _ HF2.out hlh)
              have hlh2 : (al == ah) = false := by simpa using hlh
              obtain ⟨m, hm⟩ : ∃ m : Nat, (n - al) * (bh - bl) = (m : Int) := ⟨((n - al) * (bh - bl)).toNat, by
                have := (mul_le_sq (a := n - al) (b := bh - bl) (by omega) (by omega) (by omega) (by omega)).1
                omega⟩
              obtain ⟨k9, hk9⟩ : ∃ k9 : Nat, ah - al = (k9 : Int) := ⟨(ah - al).toNat, by omega⟩
              have hm1 : m ≤ 4294836225 := by
                have := (mul_le_sq (a := n - al) (b := bh - bl) (by omega) (by omega) (by omega) (by omega)).2
                omega
              have hm2 : m ≤ 65535 * k9 := by
                have h1 : (n - al) * (bh - bl) ≤ (k9 : Int) * 65535 := Int.mul_le_mul (by omega) (by omega) (by omega) (by omega)
                omega
              obtain ⟨hsm, hrn⟩ := car_round (bl := bl) (m := m) (k9 := k9) hbl.1 hbl.2 hm1 (by omega) (by omega) hm2
              have SM := Lib.hid hsm
              obtain ⟨RV, hRV⟩ : ∃ RV, RV = rnd (bl * (k9 : Int) + (m : Int)) (k9 : Int) := ⟨_, rfl⟩
              have HRND := Lib.hid hrn
              rw [← hRV] at HRND
              have HR2 := Lib.hid (show RES = (RV, true) from by
                rw [HR.out]
                simp only
                rw [hm, hk9, hRV])
              have e1 : IntKind.i64.wrap (n - al) = n - al := IntWalk.i64_in _ (by omega)
              have e2 : IntKind.i64.wrap (bh - bl) = bh - bl := IntWalk.i64_in _ (by omega)
              have e3 : IntKind.i64.wrap ((n - al) * (bh - bl)) = (m : Int) := by rw [hm]; exact IntWalk.i64_in _ (by omega)
              have e4 : IntKind.i64.wrap (ah - al) = (k9 : Int) := by rw [hk9]; exact IntWalk.i64_in _ (by omega)
              have hkk9 : 0 < k9 ∧ k9 ≤ 65535 := by omega
              clear W4 W5 hsm hrn hRV HR hm hk9 hm2 hla hlb
              go_upto_region 13 with fail
              clear a0 a1 a2 b0 b1 b2
              refine region_heads (by kernel_rfl) 23 (by simp) (by kernel_rfl) (by kernel_rfl) (by kernel_rfl) (by kernel_rfl) (fun jx vx wx => match jx with | 0 => vx = (.pointer (some ⟨bb, 0, none⟩)) | 1 => vx = (.int .i64 (bl)) | 2 => IsQ wx.heap.size wx (vx) (bl) (1) | 3 => vx = (.int .i64 (n)) | 4 => vx = (.pointer (some ⟨ab, 0, none⟩)) | 5 => vx = (.int .i64 (al)) | 6 => vx = (.int .i64 (n - al)) | 7 => vx = (.pointer (some ⟨bb, 1, none⟩)) | 8 => vx = (.int .i64 (bh)) | 9 => vx = (.pointer (some ⟨bb, 0, none⟩)) | 10 => vx = (.int .i64 (bl)) | 11 => vx = (.int .i64 (bh - bl)) | 12 => vx = (.int .i64 (((m : Nat) : Int))) | 13 => vx = (.pointer (some ⟨ab, 1, none⟩)) | 14 => vx = (.int .i64 (ah)) | 15 => vx = (.pointer (some ⟨ab, 0, none⟩)) | 16 => vx = (.int .i64 (al)) | 17 => vx = (.int .i64 (((k9 : Nat) : Int))) | 18 => IsQ wx.heap.size wx (vx) (((m : Nat) : Int)) (k9) | 19 => IsQ wx.heap.size wx (vx) (bl * (k9 : Int) + ((m : Nat) : Int) * ((1 : Nat) : Int)) (1 * k9) | 20 => vx = (.int .i64 (RV)) | 21 => vx = (.int .i64 (RV)) | 22 => vx = (.bool true) | _ => True) (fun W => Below wB.heap.size wB W) (fun wx wy => Below wx.heap.size wx wy) (Below.refl _ _).drew ?_ ?_ ?_ ?_
              · intro jx vx wx wy h g
                match jx, h with
                | 0, h => exact h
                | 1, h => exact h
                | 2, h => exact isQ_up3 h g
                | 3, h => exact h
                | 4, h => exact h
                | 5, h => exact h
                | 6, h => exact h
                | 7, h => exact h
                | 8, h => exact h
                | 9, h => exact h
                | 10, h => exact h
                | 11, h => exact h
                | 12, h => exact h
                | 13, h => exact h
                | 14, h => exact h
                | 15, h => exact h
                | 16, h => exact h
                | 17, h => exact h
                | 18, h => exact isQ_up3 h g
                | 19, h => exact isQ_up3 h g
                | 20, h => exact h
                | 21, h => exact h
                | 22, h => exact h
                | jx + 23, h => exact trivial
              · intro jx ox dx hj ho hd
                exact insN_of (by kernel_rfl) hj ho hd
              · intro ix ox ax W hi hio hsh hW hpre
                have hsz : wB.heap.size ≤ W.heap.size := hW.size
                have GA : ∀ ob, Below W.heap.size W (W.alloc ob) := fun ob => (Below.refl _ _).alloc (Nat.le_refl _) ob
                have WA : ∀ ob, Below wB.heap.size wB (W.alloc ob) := fun ob => hW.alloc hsz ob
                have t2 : ax.tmps[2]?.getD undef = (.int .i64 n) := (Array.getD_eq_getD_getElem? ..).symm.trans ((hsh.2.2 2 (notN_of (by kernel_rfl))).trans rfl)
                have t9 : ax.tmps[9]?.getD undef = (.pointer (some ⟨ab, 0, none⟩)) := (Array.getD_eq_getD_getElem? ..).symm.trans ((hsh.2.2 9 (notN_of (by kernel_rfl))).trans rfl)
                have t11 : ax.tmps[11]?.getD undef = (.pointer (some ⟨bb, 0, none⟩)) := (Array.getD_eq_getD_getElem? ..).symm.trans ((hsh.2.2 11 (notN_of (by kernel_rfl))).trans rfl)
                have a0 := (HTA2.out.below hW).cell (i := 0) rfl
                have b0 := (HTB.out.below hW).cell (i := 0) rfl
                have a1 := (HTA2.out.below hW).cell (i := 1) rfl
                have b1 := (HTB.out.below hW).cell (i := 1) rfl
                clear hsh
                match ix, hi, hio with
                | 0, _, hio =>
                  cases hio
                  exact hwp_val (v := .pointer (some ⟨bb, 0, none⟩)) (w' := W) (by simp [execOp, Act.eval, t11, go_sem]) ⟨_, rfl, rfl, hW, Below.refl _ _⟩
                | 1, _, hio =>
                  cases hio
                  have p0 := hpre ⟨0, .data⟩ (by simp) (by rfl) _ _ rfl rfl
                  have f0 : ax.tmps[59]?.getD undef = (.pointer (some ⟨bb, 0, none⟩)) := (Array.getD_eq_getD_getElem? ..).symm.trans p0
                  exact hwp_val (v := .int .i64 (bl)) (w' := W) (by simp [execOp, Act.eval, b0, f0, go_sem]) ⟨_, rfl, rfl, hW, Below.refl _ _⟩
                | 2, _, hio =>
                  cases hio
                  have p1 := hpre ⟨1, .data⟩ (by simp) (by rfl) _ _ rfl rfl
                  have f1 : ax.tmps[60]?.getD undef = (.int .i64 (bl)) := (Array.getD_eq_getD_getElem? ..).symm.trans p1
                  refine hwp_enter (f := 84) (args := #[.int .i64 (bl)]) (by simp [execOp, Act.eval, f1, go_sem]) ?_
                  refine (whole_any bl W (by omega) (by omega)).mono ?_
                  rintro ex wy ⟨vn, rfl, hq, _, hb⟩
                  exact ⟨vn, rfl, _, rfl, hq, hW.trans (hb.mono hsz), hb⟩
                | 3, _, hio =>
                  cases hio
                  exact hwp_val (v := .int .i64 (n)) (w' := W) (by simp [execOp, Act.eval, t2, go_sem]) ⟨_, rfl, rfl, hW, Below.refl _ _⟩
                | 4, _, hio =>
                  cases hio
                  exact hwp_val (v := .pointer (some ⟨ab, 0, none⟩)) (w' := W) (by simp [execOp, Act.eval, t9, go_sem]) ⟨_, rfl, rfl, hW, Below.refl _ _⟩
                | 5, _, hio =>
                  cases hio
                  have p4 := hpre ⟨4, .data⟩ (by simp) (by rfl) _ _ rfl rfl
                  have f4 : ax.tmps[63]?.getD undef = (.pointer (some ⟨ab, 0, none⟩)) := (Array.getD_eq_getD_getElem? ..).symm.trans p4
                  exact hwp_val (v := .int .i64 (al)) (w' := W) (by simp [execOp, Act.eval, a0, f4, go_sem]) ⟨_, rfl, rfl, hW, Below.refl _ _⟩
                | 6, _, hio =>
                  cases hio
                  have p3 := hpre ⟨3, .data⟩ (by simp) (by rfl) _ _ rfl rfl
                  have f3 : ax.tmps[62]?.getD undef = (.int .i64 (n)) := (Array.getD_eq_getD_getElem? ..).symm.trans p3
                  have p5 := hpre ⟨5, .data⟩ (by simp) (by rfl) _ _ rfl rfl
                  have f5 : ax.tmps[64]?.getD undef = (.int .i64 (al)) := (Array.getD_eq_getD_getElem? ..).symm.trans p5
                  exact hwp_val (v := .int .i64 (n - al)) (w' := W) (by simp [execOp, Act.eval, e1, f3, f5, go_sem]) ⟨_, rfl, rfl, hW, Below.refl _ _⟩
                | 7, _, hio =>
                  cases hio
                  exact hwp_val (v := .pointer (some ⟨bb, 1, none⟩)) (w' := W) (by simp [execOp, Act.eval, t11, go_sem]) ⟨_, rfl, rfl, hW, Below.refl _ _⟩
                | 8, _, hio =>
                  cases hio
                  have p7 := hpre ⟨7, .data⟩ (by simp) (by rfl) _ _ rfl rfl
                  have f7 : ax.tmps[66]?.getD undef = (.pointer (some ⟨bb, 1, none⟩)) := (Array.getD_eq_getD_getElem? ..).symm.trans p7
                  exact hwp_val (v := .int .i64 (bh)) (w' := W) (by simp [execOp, Act.eval, b1, f7, go_sem]) ⟨_, rfl, rfl, hW, Below.refl _ _⟩
                | 9, _, hio =>
                  cases hio
                  exact hwp_val (v := .pointer (some ⟨bb, 0, none⟩)) (w' := W) (by simp [execOp, Act.eval, t11, go_sem]) ⟨_, rfl, rfl, hW, Below.refl _ _⟩
                | 10, _, hio =>
                  cases hio
                  have p9 := hpre ⟨9, .data⟩ (by simp) (by rfl) _ _ rfl rfl
                  have f9 : ax.tmps[68]?.getD undef = (.pointer (some ⟨bb, 0, none⟩)) := (Array.getD_eq_getD_getElem? ..).symm.trans p9
                  exact hwp_val (v := .int .i64 (bl)) (w' := W) (by simp [execOp, Act.eval, b0, f9, go_sem]) ⟨_, rfl, rfl, hW, Below.refl _ _⟩
                | 11, _, hio =>
                  cases hio
                  have p8 := hpre ⟨8, .data⟩ (by simp) (by rfl) _ _ rfl rfl
                  have f8 : ax.tmps[67]?.getD undef = (.int .i64 (bh)) := (Array.getD_eq_getD_getElem? ..).symm.trans p8
                  have p10 := hpre ⟨10, .data⟩ (by simp) (by rfl) _ _ rfl rfl
                  have f10 : ax.tmps[69]?.getD undef = (.int .i64 (bl)) := (Array.getD_eq_getD_getElem? ..).symm.trans p10
                  exact hwp_val (v := .int .i64 (bh - bl)) (w' := W) (by simp [execOp, Act.eval, e2, f8, f10, go_sem]) ⟨_, rfl, rfl, hW, Below.refl _ _⟩
                | 12, _, hio =>
                  cases hio
                  have p6 := hpre ⟨6, .data⟩ (by simp) (by rfl) _ _ rfl rfl
                  have f6 : ax.tmps[65]?.getD undef = (.int .i64 (n - al)) := (Array.getD_eq_getD_getElem? ..).symm.trans p6
                  have p11 := hpre ⟨11, .data⟩ (by simp) (by rfl) _ _ rfl rfl
                  have f11 : ax.tmps[70]?.getD undef = (.int .i64 (bh - bl)) := (Array.getD_eq_getD_getElem? ..).symm.trans p11
                  exact hwp_val (v := .int .i64 (((m : Nat) : Int))) (w' := W) (by simp [execOp, Act.eval, e3, f6, f11, go_sem]) ⟨_, rfl, rfl, hW, Below.refl _ _⟩
                | 13, _, hio =>
                  cases hio
                  exact hwp_val (v := .pointer (some ⟨ab, 1, none⟩)) (w' := W) (by simp [execOp, Act.eval, t9, go_sem]) ⟨_, rfl, rfl, hW, Below.refl _ _⟩
                | 14, _, hio =>
                  cases hio
                  have p13 := hpre ⟨13, .data⟩ (by simp) (by rfl) _ _ rfl rfl
                  have f13 : ax.tmps[72]?.getD undef = (.pointer (some ⟨ab, 1, none⟩)) := (Array.getD_eq_getD_getElem? ..).symm.trans p13
                  exact hwp_val (v := .int .i64 (ah)) (w' := W) (by simp [execOp, Act.eval, a1, f13, go_sem]) ⟨_, rfl, rfl, hW, Below.refl _ _⟩
                | 15, _, hio =>
                  cases hio
                  exact hwp_val (v := .pointer (some ⟨ab, 0, none⟩)) (w' := W) (by simp [execOp, Act.eval, t9, go_sem]) ⟨_, rfl, rfl, hW, Below.refl _ _⟩
                | 16, _, hio =>
                  cases hio
                  have p15 := hpre ⟨15, .data⟩ (by simp) (by rfl) _ _ rfl rfl
                  have f15 : ax.tmps[74]?.getD undef = (.pointer (some ⟨ab, 0, none⟩)) := (Array.getD_eq_getD_getElem? ..).symm.trans p15
                  exact hwp_val (v := .int .i64 (al)) (w' := W) (by simp [execOp, Act.eval, a0, f15, go_sem]) ⟨_, rfl, rfl, hW, Below.refl _ _⟩
                | 17, _, hio =>
                  cases hio
                  have p14 := hpre ⟨14, .data⟩ (by simp) (by rfl) _ _ rfl rfl
                  have f14 : ax.tmps[73]?.getD undef = (.int .i64 (ah)) := (Array.getD_eq_getD_getElem? ..).symm.trans p14
                  have p16 := hpre ⟨16, .data⟩ (by simp) (by rfl) _ _ rfl rfl
                  have f16 : ax.tmps[75]?.getD undef = (.int .i64 (al)) := (Array.getD_eq_getD_getElem? ..).symm.trans p16
                  exact hwp_val (v := .int .i64 (((k9 : Nat) : Int))) (w' := W) (by simp [execOp, Act.eval, e4, f14, f16, go_sem]) ⟨_, rfl, rfl, hW, Below.refl _ _⟩
                | 18, _, hio =>
                  cases hio
                  have p12 := hpre ⟨12, .data⟩ (by simp) (by rfl) _ _ rfl rfl
                  have f12 : ax.tmps[71]?.getD undef = (.int .i64 (((m : Nat) : Int))) := (Array.getD_eq_getD_getElem? ..).symm.trans p12
                  have p17 := hpre ⟨17, .data⟩ (by simp) (by rfl) _ _ rfl rfl
                  have f17 : ax.tmps[76]?.getD undef = (.int .i64 (((k9 : Nat) : Int))) := (Array.getD_eq_getD_getElem? ..).symm.trans p17
                  refine hwp_enter (f := 86) (args := #[.int .i64 (((m : Nat) : Int)), .int .i64 (((k9 : Nat) : Int))]) (by simp [execOp, Act.eval, f12, f17, go_sem]) ?_
                  refine (part_any m k9 W (by omega) (by omega)).mono ?_
                  rintro ex wy ⟨vn, rfl, hq, _, hb⟩
                  exact ⟨vn, rfl, _, rfl, hq, hW.trans (hb.mono hsz), hb⟩
                | 19, _, hio =>
                  cases hio
                  have p2 := hpre ⟨2, .data⟩ (by simp) (by rfl) _ _ rfl rfl
                  obtain ⟨v2, hv2⟩ : ∃ v, ax.tmps.getD 61 undef = v := ⟨_, rfl⟩
                  have r2 : IsQ W.heap.size W (ax.tmps.getD 61 undef) (bl) (1) := p2
                  rw [hv2] at r2
                  have f2 : ax.tmps[61]?.getD undef = v2 := (Array.getD_eq_getD_getElem? ..).symm.trans hv2
                  clear p2 hv2
                  have p18 := hpre ⟨18, .data⟩ (by simp) (by rfl) _ _ rfl rfl
                  obtain ⟨v18, hv18⟩ : ∃ v, ax.tmps.getD 77 undef = v := ⟨_, rfl⟩
                  have r18 : IsQ W.heap.size W (ax.tmps.getD 77 undef) (((m : Nat) : Int)) (k9) := p18
                  rw [hv18] at r18
                  have f18 : ax.tmps[77]?.getD undef = v18 := (Array.getD_eq_getD_getElem? ..).symm.trans hv18
                  clear p18 hv18
                  refine hwp_enter (f := 85) (args := #[v2, v18]) (by simp [execOp, Act.eval, f2, f18, go_sem]) ?_
                  refine (plusQ W.heap.size 1 k9 bl ((m : Nat) : Int) _ _ W (Nat.le_refl _) SM.out.1 SM.out.2.1 SM.out.2.2 r2 r18).mono ?_
                  rintro ex wy ⟨vn, rfl, hq, _, hb⟩
                  exact ⟨vn, rfl, _, rfl, hq, hW.trans (hb.mono hsz), hb⟩
                | 20, _, hio =>
                  cases hio
                  have p19 := hpre ⟨19, .data⟩ (by simp) (by rfl) _ _ rfl rfl
                  obtain ⟨v19, hv19⟩ : ∃ v, ax.tmps.getD 78 undef = v := ⟨_, rfl⟩
                  have r19 : IsQ W.heap.size W (ax.tmps.getD 78 undef) (bl * (k9 : Int) + ((m : Nat) : Int) * ((1 : Nat) : Int)) (1 * k9) := p19
                  rw [hv19] at r19
                  have f19 : ax.tmps[78]?.getD undef = v19 := (Array.getD_eq_getD_getElem? ..).symm.trans hv19
                  clear p19 hv19
                  refine hwp_enter (f := 87) (args := #[v19]) (by simp [execOp, Act.eval, f19, go_sem]) ?_
                  refine (HRND.out W _ r19).mono ?_
                  rintro ex wy ⟨rfl, hb⟩
                  exact ⟨_, rfl, _, rfl, rfl, hW.trans (hb.mono hsz), hb⟩
                | 21, _, hio =>
                  cases hio
                  have p20 := hpre ⟨20, .data⟩ (by simp) (by rfl) _ _ rfl rfl
                  have f20 : ax.tmps[79]?.getD undef = (.int .i64 (RV)) := (Array.getD_eq_getD_getElem? ..).symm.trans p20
                  exact hwp_val (v := .int .i64 (RV)) (w' := W) (by simp [execOp, Act.eval, f20, go_sem]) ⟨_, rfl, rfl, hW, Below.refl _ _⟩
                | 22, _, hio =>
                  cases hio
                  exact hwp_val (v := .bool true) (w' := W) (by simp [execOp, Act.eval, go_sem]) ⟨_, rfl, rfl, hW, Below.refl _ _⟩
                | ix + 23, hi, _ => exact absurd hi (by omega)
              · intro ax wE hsh hW hφ
                have e0 : ax.tmps.getD 59 undef = (.pointer (some ⟨bb, 0, none⟩)) := hφ 0 _ _ (by omega) rfl rfl
                have e1 : ax.tmps.getD 60 undef = (.int .i64 (bl)) := hφ 1 _ _ (by omega) rfl rfl
                have q2 : IsQ wE.heap.size wE (ax.tmps.getD 61 undef) (bl) (1) := hφ 2 _ _ (by omega) rfl rfl
                obtain ⟨v2, e2⟩ : ∃ v, ax.tmps.getD 61 undef = v := ⟨_, rfl⟩
                rw [e2] at q2
                have Q2 := Lib.hid q2
                clear q2
                have e3 : ax.tmps.getD 62 undef = (.int .i64 (n)) := hφ 3 _ _ (by omega) rfl rfl
                have e4 : ax.tmps.getD 63 undef = (.pointer (some ⟨ab, 0, none⟩)) := hφ 4 _ _ (by omega) rfl rfl
                have e5 : ax.tmps.getD 64 undef = (.int .i64 (al)) := hφ 5 _ _ (by omega) rfl rfl
                have e6 : ax.tmps.getD 65 undef = (.int .i64 (n - al)) := hφ 6 _ _ (by omega) rfl rfl
                have e7 : ax.tmps.getD 66 undef = (.pointer (some ⟨bb, 1, none⟩)) := hφ 7 _ _ (by omega) rfl rfl
                have e8 : ax.tmps.getD 67 undef = (.int .i64 (bh)) := hφ 8 _ _ (by omega) rfl rfl
                have e9 : ax.tmps.getD 68 undef = (.pointer (some ⟨bb, 0, none⟩)) := hφ 9 _ _ (by omega) rfl rfl
                have e10 : ax.tmps.getD 69 undef = (.int .i64 (bl)) := hφ 10 _ _ (by omega) rfl rfl
                have e11 : ax.tmps.getD 70 undef = (.int .i64 (bh - bl)) := hφ 11 _ _ (by omega) rfl rfl
                have e12 : ax.tmps.getD 71 undef = (.int .i64 (((m : Nat) : Int))) := hφ 12 _ _ (by omega) rfl rfl
                have e13 : ax.tmps.getD 72 undef = (.pointer (some ⟨ab, 1, none⟩)) := hφ 13 _ _ (by omega) rfl rfl
                have e14 : ax.tmps.getD 73 undef = (.int .i64 (ah)) := hφ 14 _ _ (by omega) rfl rfl
                have e15 : ax.tmps.getD 74 undef = (.pointer (some ⟨ab, 0, none⟩)) := hφ 15 _ _ (by omega) rfl rfl
                have e16 : ax.tmps.getD 75 undef = (.int .i64 (al)) := hφ 16 _ _ (by omega) rfl rfl
                have e17 : ax.tmps.getD 76 undef = (.int .i64 (((k9 : Nat) : Int))) := hφ 17 _ _ (by omega) rfl rfl
                have q18 : IsQ wE.heap.size wE (ax.tmps.getD 77 undef) (((m : Nat) : Int)) (k9) := hφ 18 _ _ (by omega) rfl rfl
                obtain ⟨v18, e18⟩ : ∃ v, ax.tmps.getD 77 undef = v := ⟨_, rfl⟩
                rw [e18] at q18
                have Q18 := Lib.hid q18
                clear q18
                have q19 : IsQ wE.heap.size wE (ax.tmps.getD 78 undef) (bl * (k9 : Int) + ((m : Nat) : Int) * ((1 : Nat) : Int)) (1 * k9) := hφ 19 _ _ (by omega) rfl rfl
                obtain ⟨v19, e19⟩ : ∃ v, ax.tmps.getD 78 undef = v := ⟨_, rfl⟩
                rw [e19] at q19
                have Q19 := Lib.hid q19
                clear q19
                have e20 : ax.tmps.getD 79 undef = (.int .i64 (RV)) := hφ 20 _ _ (by omega) rfl rfl
                have e21 : ax.tmps.getD 6 undef = (.int .i64 (RV)) := hφ 21 _ _ (by omega) rfl rfl
                have e22 : ax.tmps.getD 7 undef = (.bool true) := hφ 22 _ _ (by omega) rfl rfl
                rw [shape_puts hsh [(59, .pointer (some ⟨bb, 0, none⟩)), (60, .int .i64 (bl)), (61, v2), (62, .int .i64 (n)), (63, .pointer (some ⟨ab, 0, none⟩)), (64, .int .i64 (al)), (65, .int .i64 (n - al)), (66, .pointer (some ⟨bb, 1, none⟩)), (67, .int .i64 (bh)), (68, .pointer (some ⟨bb, 0, none⟩)), (69, .int .i64 (bl)), (70, .int .i64 (bh - bl)), (71, .int .i64 (((m : Nat) : Int))), (72, .pointer (some ⟨ab, 1, none⟩)), (73, .int .i64 (ah)), (74, .pointer (some ⟨ab, 0, none⟩)), (75, .int .i64 (al)), (76, .int .i64 (((k9 : Nat) : Int))), (77, v18), (78, v19), (79, .int .i64 (RV)), (6, .int .i64 (RV)), (7, .bool true)] [59, 60, 61, 62, 63, 64, 65, 66, 67, 68, 69, 70, 71, 72, 73, 74, 75, 76, 77, 78, 79, 6, 7] rfl (by kernel_rfl) ⟨e0, e1, e2, e3, e4, e5, e6, e7, e8, e9, e10, e11, e12, e13, e14, e15, e16, e17, e18, e19, e20, e21, e22, trivial⟩]
                clear hφ hsh e0 e1 e2 e3 e4 e5 e6 e7 e8 e9 e10 e11 e12 e13 e14 e15 e16 e17 e18 e19 e20 e21 e22
                simp only [putsN, List.foldl_cons, List.foldl_nil, List.drop_succ_cons, List.drop_zero, Act.put, List.setIfInBounds_toArray, List.set_cons_succ, List.set_cons_zero]
                have HBF := Lib.hid (HBE.out.trans (hW.mono HBE.out.size))
                clear hW
                go_wp2_with fail
                exact bodyPost_ret (v := .tuple #[.int .i64 RV, .bool true]) (by simp [results, Try.results57, go_sem]) rfl ⟨by rw [HR2.out], HBF.out⟩
          · have hjj : j = lq.length := by omega
            subst hjj
            have HR := Lib.hid (W3.out (by have := HNJ.out; rwa [List.take_length] at this))
            have HBE := Lib.hid HKJ.out.bel
            clear W3 W4 W5
            go_wp2_with fail
            exact bodyPost_ret (v := .tuple #[.int .i64 0, .bool false]) (by simp [results, Try.results57, go_sem]) rfl ⟨by rw [HR.out], HBE.out⟩
      · have hkk : k = lo.length := by omega
        subst hkk
        have HR := Lib.hid (V2.out (by have := HN.out; rwa [List.take_length] at this))
        have HBE := Lib.hid HK.out.bel
        clear V2 V3 V4 V5
        go_wp2_with fail
        exact bodyPost_ret (v := .tuple #[.int .i64 n, .bool true]) (by simp [results, Try.results57, go_sem]) rfl ⟨by rw [HR.out], HBE.out⟩
end Go.Proofs.Ytabalicembhjmaa
