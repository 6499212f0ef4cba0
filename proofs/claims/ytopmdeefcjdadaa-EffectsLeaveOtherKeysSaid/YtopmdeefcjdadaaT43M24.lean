/- effect.checkBase. (printed by wip/gen/gen_aprun.py) effect.greatest over a function value of two captures. (printed by wip/gen/gen_waveof.py) effect.waveOf. (printed by wip/gen/gen_wayfn.py) -/
import Derived.Test.YtopmdeefcjdadaaT43M22
import Derived.Test.YtopmdeefcjdadaaT43M19
import Derived.Test.YtopmdeefcjdadaaT43M17
import Derived.Test.YtopmdeefcjdadaaT43M10
import Derived.Test.YtopmdeefcjdadaaT43M16
import Derived.Deep.DeepCutAuto

namespace Go.Proofs.Ytopmdeefcjdadaa
open Go.RowKit
set_option linter.unusedVariables false
set_option linter.unusedSimpArgs false

set_option maxRecDepth 100000 in
set_option maxHeartbeats 8000000 in
theorem checkBase_any (r : Rig) (l : List Stg) (sv : Value) (mb m : Nat) (w : World) (hM : HasM w mb m (dfO r)) (hS : StgS w.heap.size w sv l) (hs : ∀ s ∈ l, StgFit s) :
    Calls Try.prog 58 #[sv, .map (some mb)] w fun e w' => e = .returned (.int .i64 (chkStgs r l)) ∧ Below w.heap.size w w' := by
  have HMK := Lib.hid (show mb < w.heap.size ∧ ∀ W, Below w.heap.size w W → HasM W mb m (dfO r) from ⟨hM.lt, fun W hb => hM.below hb⟩)
  have HG := Lib.hid (StgS.get hS)
  have hml := CellsS.len hS
  unfold maxLen at hml
  have HSF := Lib.hid hs
  obtain ⟨so, scap, rfl, _⟩ := CellsS.shape hS
  have HC := Lib.hid (show chkStgs r l = scanF (stgF r) l 0 from rfl)
  clear hM hS hs
  generalize chkStgs r l = RES at *
  go_enter Try.func58, Try.ntmps58
  have hmm := @run_makeMap Try.prog
  go_wp2_with fail
  clear hmm
  go_loopw [13] (fun i wx => ∃ k : Nat, k ≤ l.length ∧ i = .int .i64 k ∧ Hid (RES = scanF (stgF r) l k) ∧ Hid (Below w.heap.size w wx) ∧ Hid (SeenM wx Try.prog 47 4 w.heap.size k ((l.take k).map (fun s => keyL s.k)))) (fun i _ => l.length - (intOf i).toNat)
  case atStart => exact ⟨0, Nat.zero_le _, rfl, HC, Lib.hid ((Below.refl _ _).alloc (Nat.le_refl _) _), Lib.hid (by simpa using seen_made w Try.prog 47 4)⟩
  case round =>
    clear HC
    obtain ⟨k, hk, rfl, HRF, HBW, HSE⟩ := hrel
    have hsz := HBW.out.size
    have hlw := HSE.out.lt
    have hmbl := HMK.out.1
    by_cases hlt : k < l.length
    · obtain ⟨b, off, cap', hsl, hbb, _, hc⟩ := HG.out (by omega)
      injection hsl with hs1 hs2 hs3
      subst hs1 hs3
      obtain ⟨d0, d1, d2⟩ := hc k hlt wr HBW.out
      have hbr : b < wr.heap.size := by omega
      have hfit := HSF.out _ (List.getElem_mem hlt)
      have HSG := Lib.hid (scanF_good (stgF r) l k hlt)
      have HSB := Lib.hid (scanF_bad (stgF r) l k hlt)
      have HFD := Lib.hid (show stgF r (l.take k) l[k] = if (dfO r l[k].k).isNone then 8 else if !inR l[k].lv 0 65535 then 1 else if (l.take k).any (isK l[k].k) then 6 else 0 by rw [dfO_none]; rfl)
      have HKK := Lib.hid (keyS_fit hfit)
      have hkey := Lib.hid (keyOf_key HKK.out)
      have HTK := Lib.hid (show (l.take (k + 1)).map (fun s => keyL s.k) = (l.take k).map (fun s => keyL s.k) ++ [keyL l[k].k] by rw [List.take_succ_eq_append_getElem hlt, List.map_append]; rfl)
      have HIN := Lib.hid (show keyL l[k].k ∈ (l.take k).map (fun s => keyL s.k) ↔ (l.take k).any (isK l[k].k) = true from ⟨fun h => by
        obtain ⟨y, hy, he⟩ := List.mem_map.1 h
        have := keyL_inj (keyS_fit (HSF.out _ (List.mem_of_mem_take hy))) HKK.out he
        exact List.any_eq_true.2 ⟨y, hy, isK_iff.2 this⟩, fun h => by
        obtain ⟨y, hy, he⟩ := List.any_eq_true.1 h
        exact List.mem_map.2 ⟨y, hy, by rw [isK_iff.1 he]⟩⟩)
      have hkv : l[k].k = (l[k].unit, l[k].par) := rfl
      rw [hkv] at HFD HKK hkey HTK HIN
      clear hkv
      generalize (l.take k).map (fun s => keyL s.k) = S at *
      generalize (l.take k).any (isK (l[k].unit, l[k].par)) = SN at *
      generalize stgF r (l.take k) l[k] = FF at *
      generalize hrk : l[k] = rk at *
      clear hrk
      obtain ⟨su, sp, sl⟩ := rk
      simp only at *
      obtain ⟨DO, hDO⟩ : ∃ o, dfO r (su, sp) = o := ⟨_, rfl⟩
      have hq := ((HMK.out.2 wr HBW.out).alloc (.cells #[.int .i64 su, .string sp, .int .i64 sl] 49)).look2 HKK.out hDO
      rw [hDO] at HFD
      have HSX := Lib.hid (show SeenM (wr.alloc (.cells #[.int .i64 su, .string sp, .int .i64 sl] 49)) Try.prog 47 4 w.heap.size k S from HSE.out.kept (World.grownBy_alloc _ _ none) (by simp))
      have HBX := Lib.hid (HBW.out.alloc HBW.out.size (.cells #[.int .i64 su, .string sp, .int .i64 sl] 49))
      clear hc hfit HSE
      cases DO with
      | none =>
        have HE : FF = 8 := by rw [HFD.out]; rfl
        have HV := Lib.hid (show RES = 8 by rw [HRF.out, HSB.out (by rw [HE]; decide), HE])
        clear HE
        simp only [Option.getD_none, Option.isSome_none] at hq
        go_wp2_with fail
        go_ret
        exact ⟨by rw [HV.out] <;> rfl, HBX.out⟩
      | some dv =>
        simp only [Option.getD_some, Option.isSome_some] at hq
        rcases Bool.eq_false_or_eq_true (inR sl 0 65535) with k0 | k0
        rotate_left
        · have HE : FF = 1 := by rw [HFD.out]; simp [k0]
          have HV := Lib.hid (show RES = 1 by rw [HRF.out, HSB.out (by rw [HE]; decide), HE])
          clear HE
          go_wp2_with (go_at_call 73; ((with_reducible refine (eLevel_R _ _).mono ?_); rintro e w' ⟨rfl, rfl⟩))
          go_ret
          exact ⟨by rw [HV.out] <;> rfl, HBX.out⟩
        cases SN
        rotate_left
        · have HE : FF = 6 := by rw [HFD.out]; simp [k0]
          have HV := Lib.hid (show RES = 6 by rw [HRF.out, HSB.out (by rw [HE]; decide), HE])
          clear HE
          go_wp2_with (first | (go_at_call 73; ((with_reducible refine (eLevel_R _ _).mono ?_); rintro e w' ⟨rfl, rfl⟩)) | (at_lookup; refine wpList_seen _ rfl _ _ 105 rfl 47 4 keyed_ Try.underlying105 Try.underlying4 (zeroBool_ _) w.heap.size k S rfl HSX.out (keyV (su, sp)) (keyL (su, sp)) rfl hkey.out ?_; intro c hc; obtain rfl : c = true := hc.2 (HIN.out.2 (by first | rfl | trivial)); clear hc) | fail)
          go_ret
          exact ⟨by rw [HV.out] <;> rfl, HBX.out⟩
        · have HE : FF = 0 := by rw [HFD.out]; simp [k0]
          have HV := Lib.hid (show RES = scanF (stgF r) l (k + 1) by rw [HRF.out, HSG.out HE])
          clear HE
          go_wp2_with (first | (go_at_call 73; ((with_reducible refine (eLevel_R _ _).mono ?_); rintro e w' ⟨rfl, rfl⟩)) | (at_lookup; refine wpList_seen _ rfl _ _ 105 rfl 47 4 keyed_ Try.underlying105 Try.underlying4 (zeroBool_ _) w.heap.size k S rfl HSX.out (keyV (su, sp)) (keyL (su, sp)) rfl hkey.out ?_; intro c hc; obtain rfl : c = false := (by cases c; rfl; exact absurd (HIN.out.1 (hc.1 rfl)) (by simp)); clear hc) | (at_mapUpdate; refine wpList_seen_put _ rfl _ _ _ 105 rfl 47 4 keyed_ Try.underlying105 Try.underlying4 w.heap.size k S rfl HSX.out (by unfold maxLen; omega) (keyV (su, sp)) (keyL (su, sp)) rfl rfl hkey.out ?_; intro w3 hown3 hgrow3) | fail)
          refine ⟨⟨k + 1, by omega, by first | rfl | go_num, HV, Lib.hid (HBX.out.grown hgrow3 (by simp; omega) (fun j hj => by cases hj; omega)), Lib.hid (by rw [HTK.out]; exact hown3)⟩, ?_⟩
          simp [intOf]; omega
    · have HV := Lib.hid (show RES = 0 by rw [HRF.out, scanF_end _ l k (by omega)])
      go_wp2_with fail
      go_ret
      exact ⟨by rw [HV.out] <;> rfl, HBW.out⟩
end Go.Proofs.Ytopmdeefcjdadaa

namespace Go.Proofs.Ytopmdeefcjdadaa
open Go.RowKit
set_option linter.unusedVariables false
set_option linter.unusedSimpArgs false

/-- k is the greatest number up to m at which H holds, of those that hold from 0 on -/
def GreatOf (m : Int) (H : Int → Prop) (r : Int) : Prop := 0 ≤ r ∧ r ≤ m ∧ (∀ k, 0 < k → k ≤ r → H k) ∧ ∀ k, r < k → k ≤ m → ¬ H k
set_option maxRecDepth 100000 in
set_option maxHeartbeats 8000000 in
theorem greatest2_any (fn : FuncId) (p q : Value) (m : Int) (H : Int → Bool) (w : World) (hm0 : 0 ≤ m) (hm1 : m ≤ 1000000000)
    (hmono : ∀ a b, 0 ≤ a → a ≤ b → b ≤ m → H b = true → H a = true)
    (hcf : ∀ args W, Sem.run Try.prog (callFunc fn args) W = .ok (.enter fn args) W)
    (hc : ∀ k W, 0 ≤ k → k ≤ m → Below w.heap.size w W → Calls Try.prog fn #[.int .i64 k, p, q] W fun e w' => e = .returned (.bool (H k)) ∧ Below W.heap.size W w') :
    Calls Try.prog 47 #[.int .i64 m, .func (.func fn) #[] #[p, q]] w fun e w' => ∃ r, e = .returned (.int .i64 r) ∧ (0 ≤ r ∧ r ≤ m) ∧ (0 < r → H r = true) ∧ (r < m → H (r + 1) = false) ∧ Below w.heap.size w w' := by
  have HC := Lib.hid hc
  have HMO := Lib.hid hmono
  clear hc hmono
  go_enter Try.func47, Try.ntmps47
  go_wp2_with fail
  go_loopw [5, 6] (fun a b wx => ∃ (lo hi : Int), a = .int .i64 lo ∧ b = .int .i64 hi ∧ 0 ≤ lo ∧ lo ≤ hi ∧ hi ≤ m ∧ Hid (0 < lo → H lo = true) ∧ Hid (hi < m → H (hi + 1) = false) ∧ Hid (Below w.heap.size w wx)) (fun a b _ => (intOf b - intOf a).toNat)
  case atStart => exact ⟨0, m, rfl, rfl, by omega, by omega, by omega, Lib.hid (fun h => absurd h (by omega)), Lib.hid (fun h => absurd h (by omega)), Lib.hid (Below.refl _ _)⟩
  case round =>
    obtain ⟨lo, hi, rfl, rfl, h0, h1, h2, HL, HH, HB⟩ := hrel
    by_cases hlt : lo < hi
    · have a1 : IntKind.i64.wrap (lo + hi) = lo + hi := IntWalk.i64_in _ (by omega)
      have a2 : IntKind.i64.wrap (lo + hi + 1) = lo + hi + 1 := IntWalk.i64_in _ (by omega)
      have a3 : (lo + hi + 1).tdiv 2 = (lo + hi + 1) / 2 := Int.tdiv_eq_ediv_of_nonneg (by omega)
      obtain ⟨k, hk⟩ : ∃ k, (lo + hi + 1) / 2 = k := ⟨_, rfl⟩
      have hk1 : lo < k ∧ k ≤ hi := by omega
      rw [hk] at a3
      have a4 : IntKind.i64.wrap k = k := IntWalk.i64_in _ (by omega)
      have a5 : IntKind.i64.wrap (k - 1) = k - 1 := IntWalk.i64_in _ (by omega)
      have HCK := Lib.hid (HC.out k wr (by omega) (by omega) HB.out)
      clear hk
      cases hHk : H k
      · rw [hHk] at HCK
        have HN := Lib.hid (show k - 1 < m → H (k - 1 + 1) = false from fun _ => by rw [show k - 1 + 1 = k by omega]; exact hHk)
        clear hHk
        go_wp2_with fail
        refine HCK.out.mono ?_
        rintro e wz ⟨rfl, hb⟩
        have HBZ := Lib.hid (HB.out.trans (hb.mono HB.out.size))
        clear hb HCK
        go_wp2_with fail
        go_roundw
        case rel => exact ⟨lo, k - 1, rfl, by first | rfl | go_num, by omega, by omega, by omega, HL, HN, HBZ⟩
        case measure => simp [intOf]; omega
      · rw [hHk] at HCK
        have HN := Lib.hid (show 0 < k → H k = true from fun _ => hHk)
        clear hHk
        go_wp2_with fail
        refine HCK.out.mono ?_
        rintro e wz ⟨rfl, hb⟩
        have HBZ := Lib.hid (HB.out.trans (hb.mono HB.out.size))
        clear hb HCK
        go_wp2_with fail
        go_roundw
        case rel => exact ⟨k, hi, rfl, rfl, by omega, by omega, by omega, HN, HH, HBZ⟩
        case measure => simp [intOf]; omega
    · have he : lo = hi := by omega
      subst he
      go_wp2_with fail
      go_ret
      exact ⟨lo, rfl, ⟨h0, h2⟩, HL.out, HH.out, HB.out⟩
end Go.Proofs.Ytopmdeefcjdadaa

namespace Go.Proofs.Ytopmdeefcjdadaa
open Go.RowKit
set_option linter.unusedVariables false
set_option linter.unusedSimpArgs false

set_option maxHeartbeats 1000000 in
theorem waveOf_1 (low high cycle width spread : Int) (back rel : Bool) (ao : Option Addr) (cap : Nat) (l : List Stp) (w : World) :
    Calls Try.prog 74 #[.agg #[.int .i64 1, .int .i64 low, .int .i64 high, .int .i64 cycle, .int .i64 width, .int .i64 spread, .bool back, .bool rel, .slice ao l.length cap]] w fun e w' => e = .returned (.iface 153 (.agg #[])) ∧ Below w.heap.size w w' := by
  go_enter Try.func74, Try.ntmps74
  go_wp2_with fail
  go_ret
  exact ⟨rfl, (Below.refl _ _).alloc (Nat.le_refl _) _⟩
set_option maxHeartbeats 1000000 in
theorem waveOf_2 (low high cycle width spread : Int) (back rel : Bool) (ao : Option Addr) (cap : Nat) (l : List Stp) (w : World) :
    Calls Try.prog 74 #[.agg #[.int .i64 2, .int .i64 low, .int .i64 high, .int .i64 cycle, .int .i64 width, .int .i64 spread, .bool back, .bool rel, .slice ao l.length cap]] w fun e w' => e = .returned (.iface 154 (.agg #[])) ∧ Below w.heap.size w w' := by
  go_enter Try.func74, Try.ntmps74
  go_wp2_with fail
  go_ret
  exact ⟨rfl, (Below.refl _ _).alloc (Nat.le_refl _) _⟩
set_option maxHeartbeats 1000000 in
theorem waveOf_3 (low high cycle width spread : Int) (back rel : Bool) (ao : Option Addr) (cap : Nat) (l : List Stp) (w : World) :
    Calls Try.prog 74 #[.agg #[.int .i64 3, .int .i64 low, .int .i64 high, .int .i64 cycle, .int .i64 width, .int .i64 spread, .bool back, .bool rel, .slice ao l.length cap]] w fun e w' => e = .returned (.iface 155 (.agg #[])) ∧ Below w.heap.size w w' := by
  go_enter Try.func74, Try.ntmps74
  go_wp2_with fail
  go_ret
  exact ⟨rfl, (Below.refl _ _).alloc (Nat.le_refl _) _⟩
set_option maxHeartbeats 1000000 in
theorem waveOf_4 (low high cycle width spread : Int) (back rel : Bool) (ao : Option Addr) (cap : Nat) (l : List Stp) (w : World) :
    Calls Try.prog 74 #[.agg #[.int .i64 4, .int .i64 low, .int .i64 high, .int .i64 cycle, .int .i64 width, .int .i64 spread, .bool back, .bool rel, .slice ao l.length cap]] w fun e w' => e = .returned (.iface 157 (.agg #[.int .i64 width])) ∧ Below w.heap.size w w' := by
  go_enter Try.func74, Try.ntmps74
  go_wp2_with fail
  go_ret
  exact ⟨rfl, (Below.refl _ _).alloc (Nat.le_refl _) _⟩
set_option maxHeartbeats 1000000 in
theorem waveOf_5 (low high cycle width spread : Int) (back rel : Bool) (ao : Option Addr) (cap : Nat) (l : List Stp) (w : World) :
    Calls Try.prog 74 #[.agg #[.int .i64 5, .int .i64 low, .int .i64 high, .int .i64 cycle, .int .i64 width, .int .i64 spread, .bool back, .bool rel, .slice ao l.length cap]] w fun e w' => e = .returned (.iface 158 (.agg #[])) ∧ Below w.heap.size w w' := by
  go_enter Try.func74, Try.ntmps74
  go_wp2_with fail
  go_ret
  exact ⟨rfl, (Below.refl _ _).alloc (Nat.le_refl _) _⟩
set_option maxHeartbeats 1000000 in
theorem waveOf_6 (low high cycle width spread : Int) (back rel : Bool) (ao : Option Addr) (cap : Nat) (l : List Stp) (w : World) :
    Calls Try.prog 74 #[.agg #[.int .i64 6, .int .i64 low, .int .i64 high, .int .i64 cycle, .int .i64 width, .int .i64 spread, .bool back, .bool rel, .slice ao l.length cap]] w fun e w' => e = .returned (.iface 159 (.agg #[])) ∧ Below w.heap.size w w' := by
  go_enter Try.func74, Try.ntmps74
  go_wp2_with fail
  go_ret
  exact ⟨rfl, (Below.refl _ _).alloc (Nat.le_refl _) _⟩
set_option maxRecDepth 100000 in
set_option maxHeartbeats 4000000 in
theorem waveOf_7 (low high cycle width spread : Int) (back rel : Bool) (ao : Option Addr) (cap : Nat) (l : List Stp) (c : Int) (w : World) (hs : StepsAt w.heap.size w ao l) (hl : l.length ≤ 50) (hall : l.all stpB = true) (hc : 0 ≤ cycle ∧ cycle ≤ 3600000) (hcc : cycle + sumS l = c) :
    Calls Try.prog 74 #[.agg #[.int .i64 7, .int .i64 low, .int .i64 high, .int .i64 cycle, .int .i64 width, .int .i64 spread, .bool back, .bool rel, .slice ao l.length cap]] w fun e w' => e = .returned (.iface 161 (.agg #[.slice ao l.length cap, .int .i64 c])) ∧ Below w.heap.size w w' := by
  have CC := Lib.hid (fun (W : World) (hb : Below w.heap.size w W) => cycle_any 7 low high cycle width spread back rel ao cap l W (stepsAt_up hs hb) hl hall hc)
  rw [hcc] at CC
  clear hs hall hcc
  go_enter Try.func74, Try.ntmps74
  have HT := Lib.hid (show TBox (w.alloc (.cells #[.int .i64 7, .int .i64 low, .int .i64 high, .int .i64 cycle, .int .i64 width, .int .i64 spread, .bool back, .bool rel, .slice ao l.length cap] 24)) w.heap.size 24 #[.int .i64 7, .int .i64 low, .int .i64 high, .int .i64 cycle, .int .i64 width, .int .i64 spread, .bool back, .bool rel, .slice ao l.length cap] from TBox.new w _ _)
  have HB := Lib.hid (show Below w.heap.size w (w.alloc (.cells #[.int .i64 7, .int .i64 low, .int .i64 high, .int .i64 cycle, .int .i64 width, .int .i64 spread, .bool back, .bool rel, .slice ao l.length cap] 24)) from (Below.refl _ _).alloc (Nat.le_refl _) _)
  go_upto_region 14 with fail
  generalize hw1 : (w.alloc (.cells #[.int .i64 7, .int .i64 low, .int .i64 high, .int .i64 cycle, .int .i64 width, .int .i64 spread, .bool back, .bool rel, .slice ao l.length cap] 24)) = w1 at *
  clear hw1
  refine region_heads (by kernel_rfl) 7 (by simp) (by kernel_rfl) (by kernel_rfl) (by kernel_rfl) (by kernel_rfl) (fun jx vx wx => match jx with | 0 => vx = (.pointer (some ⟨w.heap.size, 8, none⟩)) | 1 => vx = (.slice ao l.length cap) | 2 => vx = (.agg #[.int .i64 7, .int .i64 low, .int .i64 high, .int .i64 cycle, .int .i64 width, .int .i64 spread, .bool back, .bool rel, .slice ao l.length cap]) | 3 => vx = (.int .i64 c) | 4 => vx = (.agg #[.slice ao l.length cap, .int .i64 c]) | 5 => vx = (.iface 161 (.agg #[.slice ao l.length cap, .int .i64 c])) | 6 => vx = (.iface 161 (.agg #[.slice ao l.length cap, .int .i64 c])) | _ => True) (fun W => Below w1.heap.size w1 W) (fun wx wy => Below wx.heap.size wx wy) (Below.refl _ _).drew ?_ ?_ ?_ ?_
  · intro jx vx wx wy h g
    match jx, h with
    | 0, h => exact h
    | 1, h => exact h
    | 2, h => exact h
    | 3, h => exact h
    | 4, h => exact h
    | 5, h => exact h
    | 6, h => exact h
    | jx + 7, h => exact trivial
  · intro jx ox dx hj ho hd
    exact insN_of (by kernel_rfl) hj ho hd
  · intro ix ox ax W hi hio hsh hW hpre
    have hsz : w1.heap.size ≤ W.heap.size := hW.size
    have GA : ∀ ob, Below W.heap.size W (W.alloc ob) := fun ob => (Below.refl _ _).alloc (Nat.le_refl _) ob
    have WA : ∀ ob, Below w1.heap.size w1 (W.alloc ob) := fun ob => hW.alloc hsz ob
    have t1 : ax.tmps[1]?.getD undef = (.pointer (some ⟨w.heap.size, 0, none⟩)) := (Array.getD_eq_getD_getElem? ..).symm.trans ((hsh.2.2 1 (notN_of (by kernel_rfl))).trans rfl)
    obtain ⟨q0, q1, q2, q3, q4, q5, q6, q7, q8⟩ : W.cell? ⟨w.heap.size, 0, none⟩ = some (.int .i64 7) ∧ W.cell? ⟨w.heap.size, 1, none⟩ = some (.int .i64 low) ∧ W.cell? ⟨w.heap.size, 2, none⟩ = some (.int .i64 high) ∧ W.cell? ⟨w.heap.size, 3, none⟩ = some (.int .i64 cycle) ∧ W.cell? ⟨w.heap.size, 4, none⟩ = some (.int .i64 width) ∧ W.cell? ⟨w.heap.size, 5, none⟩ = some (.int .i64 spread) ∧ W.cell? ⟨w.heap.size, 6, none⟩ = some (.bool back) ∧ W.cell? ⟨w.heap.size, 7, none⟩ = some (.bool rel) ∧ W.cell? ⟨w.heap.size, 8, none⟩ = some (.slice ao l.length cap) := ⟨(HT.out.below hW).cell (i := 0) rfl, (HT.out.below hW).cell (i := 1) rfl, (HT.out.below hW).cell (i := 2) rfl, (HT.out.below hW).cell (i := 3) rfl, (HT.out.below hW).cell (i := 4) rfl, (HT.out.below hW).cell (i := 5) rfl, (HT.out.below hW).cell (i := 6) rfl, (HT.out.below hW).cell (i := 7) rfl, (HT.out.below hW).cell (i := 8) rfl⟩
    clear hsh
    match ix, hi, hio with
    | 0, _, hio =>
      cases hio
      exact hwp_val (v := .pointer (some ⟨w.heap.size, 8, none⟩)) (w' := W) (by simp [execOp, Act.eval, t1, go_sem]) ⟨_, rfl, rfl, hW, Below.refl _ _⟩
    | 1, _, hio =>
      cases hio
      have p0 := hpre ⟨0, .data⟩ (by simp) (by rfl) _ _ rfl rfl
      have f0 : ax.tmps[31]?.getD undef = (.pointer (some ⟨w.heap.size, 8, none⟩)) := (Array.getD_eq_getD_getElem? ..).symm.trans p0
      exact hwp_val (v := .slice ao l.length cap) (w' := W) (by simp [execOp, Act.eval, q8, f0, go_sem]) ⟨_, rfl, rfl, hW, Below.refl _ _⟩
    | 2, _, hio =>
      cases hio
      exact hwp_val (v := .agg #[.int .i64 7, .int .i64 low, .int .i64 high, .int .i64 cycle, .int .i64 width, .int .i64 spread, .bool back, .bool rel, .slice ao l.length cap]) (w' := W) (by simp [execOp, Act.eval, t1, q0, q1, q2, q3, q4, q5, q6, q7, q8, go_sem]) ⟨_, rfl, rfl, hW, Below.refl _ _⟩
    | 3, _, hio =>
      cases hio
      have p2 := hpre ⟨2, .data⟩ (by simp) (by rfl) _ _ rfl rfl
      have f2 : ax.tmps[33]?.getD undef = (.agg #[.int .i64 7, .int .i64 low, .int .i64 high, .int .i64 cycle, .int .i64 width, .int .i64 spread, .bool back, .bool rel, .slice ao l.length cap]) := (Array.getD_eq_getD_getElem? ..).symm.trans p2
      refine hwp_enter (f := 55) (args := #[.agg #[.int .i64 7, .int .i64 low, .int .i64 high, .int .i64 cycle, .int .i64 width, .int .i64 spread, .bool back, .bool rel, .slice ao l.length cap]]) (by simp [execOp, Act.eval, f2, go_sem]) ?_
      refine (CC.out W (HB.out.trans (hW.mono (by have := HT.out.lt; omega)))).mono ?_
      rintro ex wy ⟨rfl, hb⟩
      exact ⟨_, rfl, _, rfl, rfl, hW.trans (hb.mono hsz), hb⟩
    | 4, _, hio =>
      cases hio
      have p1 := hpre ⟨1, .data⟩ (by simp) (by rfl) _ _ rfl rfl
      have f1 : ax.tmps[32]?.getD undef = (.slice ao l.length cap) := (Array.getD_eq_getD_getElem? ..).symm.trans p1
      have p3 := hpre ⟨3, .data⟩ (by simp) (by rfl) _ _ rfl rfl
      have f3 : ax.tmps[34]?.getD undef = (.int .i64 c) := (Array.getD_eq_getD_getElem? ..).symm.trans p3
      exact hwp_val (v := .agg #[.slice ao l.length cap, .int .i64 c]) (w' := W) (by simp [execOp, Act.eval, f1, f3, go_sem]) ⟨_, rfl, rfl, hW, Below.refl _ _⟩
    | 5, _, hio =>
      cases hio
      have p4 := hpre ⟨4, .data⟩ (by simp) (by rfl) _ _ rfl rfl
      have f4 : ax.tmps[35]?.getD undef = (.agg #[.slice ao l.length cap, .int .i64 c]) := (Array.getD_eq_getD_getElem? ..).symm.trans p4
      exact hwp_val (v := .iface 161 (.agg #[.slice ao l.length cap, .int .i64 c])) (w' := W) (by simp [execOp, Act.eval, f4, go_sem]) ⟨_, rfl, rfl, hW, Below.refl _ _⟩
    | 6, _, hio =>
      cases hio
      have p5 := hpre ⟨5, .data⟩ (by simp) (by rfl) _ _ rfl rfl
      have f5 : ax.tmps[36]?.getD undef = (.iface 161 (.agg #[.slice ao l.length cap, .int .i64 c])) := (Array.getD_eq_getD_getElem? ..).symm.trans p5
      exact hwp_val (v := .iface 161 (.agg #[.slice ao l.length cap, .int .i64 c])) (w' := W) (by simp [execOp, Act.eval, f5, go_sem]) ⟨_, rfl, rfl, hW, Below.refl _ _⟩
    | ix + 7, hi, _ => exact absurd hi (by omega)
  · intro ax W hsh hW hφ
    have e0 : ax.tmps.getD 31 undef = (.pointer (some ⟨w.heap.size, 8, none⟩)) := hφ 0 _ _ (by omega) rfl rfl
    have e1 : ax.tmps.getD 32 undef = (.slice ao l.length cap) := hφ 1 _ _ (by omega) rfl rfl
    have e2 : ax.tmps.getD 33 undef = (.agg #[.int .i64 7, .int .i64 low, .int .i64 high, .int .i64 cycle, .int .i64 width, .int .i64 spread, .bool back, .bool rel, .slice ao l.length cap]) := hφ 2 _ _ (by omega) rfl rfl
    have e3 : ax.tmps.getD 34 undef = (.int .i64 c) := hφ 3 _ _ (by omega) rfl rfl
    have e4 : ax.tmps.getD 35 undef = (.agg #[.slice ao l.length cap, .int .i64 c]) := hφ 4 _ _ (by omega) rfl rfl
    have e5 : ax.tmps.getD 36 undef = (.iface 161 (.agg #[.slice ao l.length cap, .int .i64 c])) := hφ 5 _ _ (by omega) rfl rfl
    have e6 : ax.tmps.getD 2 undef = (.iface 161 (.agg #[.slice ao l.length cap, .int .i64 c])) := hφ 6 _ _ (by omega) rfl rfl
    rw [shape_puts hsh [(31, .pointer (some ⟨w.heap.size, 8, none⟩)), (32, .slice ao l.length cap), (33, .agg #[.int .i64 7, .int .i64 low, .int .i64 high, .int .i64 cycle, .int .i64 width, .int .i64 spread, .bool back, .bool rel, .slice ao l.length cap]), (34, .int .i64 c), (35, .agg #[.slice ao l.length cap, .int .i64 c]), (36, .iface 161 (.agg #[.slice ao l.length cap, .int .i64 c])), (2, .iface 161 (.agg #[.slice ao l.length cap, .int .i64 c]))] [31, 32, 33, 34, 35, 36, 2] rfl (by kernel_rfl) ⟨e0, e1, e2, e3, e4, e5, e6, trivial⟩]
    clear hφ hsh e0 e1 e2 e3 e4 e5 e6
    simp only [putsN, List.foldl_cons, List.foldl_nil, List.drop_succ_cons, List.drop_zero, Act.put, List.setIfInBounds_toArray, List.set_cons_succ, List.set_cons_zero]
    have HBE := Lib.hid (HB.out.trans (hW.mono (by have := HT.out.lt; omega)))
    clear hW
    go_wp2_with fail
    go_ret
    exact ⟨rfl, HBE.out⟩
end Go.Proofs.Ytopmdeefcjdadaa
