/- slices.Grow of nil and slices.Concat, at bytes. -/
import Derived.Test.YtfipkljefmfhmaaEncSync
import Derived.Lib.AppendZeros
namespace Go.Proofs.Ytfipkljefmfhmaa
open Go.RowKit
set_option linter.unusedVariables false
set_option linter.unusedSimpArgs false

def GrowP (w : World) (e : Ending) (w' : World) : Prop := ∃ v', e = .returned v' ∧ w'.ownsRow w.heap.size 5 1 v' 0 [] ∧ w.grownBy w' none

theorem grow_app (n : Nat) (w : World) (h0 : 0 < n) (hn : n ≤ 100000) : ∃ cap w', (Builtin.append_ #[22, 3] 22 #[.slice none 0 0, .int .i64 n]).run Try.prog w = .ok (.slice (some ⟨w.heap.size, 0, none⟩) n cap) w' ∧ n ≤ cap ∧ cap ≤ 9223372036854775807 ∧
    Hid (w'.ownsRow w.heap.size 5 1 (.slice (some ⟨w.heap.size, 0, none⟩) 0 cap) 0 [] ∧ w.grownBy w' none) := by
  obtain ⟨i0, hi, hz0, hz1, hz2⟩ := info_parts byte_info
  have hr := Lib.run_append_nil_zeros (P := Try.prog) w 22 3 22 5 i0 (.int .u8 0) .i64 .i64 Try.underlying22 Try.underlying3 hi hz0 n h0 (by omega) (by omega) (by rw [hz2]; omega)
  have h1 := grownCap_ge w n 0 5
  have h2 := grownCap_le_maxLen w n 0 5 (by unfold maxLen; omega)
  refine ⟨_, _, hr, h1, by unfold maxLen at h2; omega, Lib.hid ⟨?_, ?_⟩⟩
  · refine World.ownsRow_made w.drew _ _ (by simp) h2 ?_
    simp [size_zeroCells, Value.cells]
    omega
  · exact ⟨rfl, rfl, rfl, by simp, fun k hk _ => Below.heap_alloc w.drew _ k hk⟩

set_option maxHeartbeats 2000000 in
set_option maxRecDepth 100000 in
theorem grow_nil (n : Nat) (w : World) (hn : n ≤ 100000) :
    Calls Try.prog 127 #[.slice none 0 0, .int .i64 n] w (GrowP w) := by
  by_cases h0 : 0 < n
  · obtain ⟨cap, w1, hr, h1, h2, HG⟩ := grow_app n w h0 hn
    have HR := Lib.hid hr
    have h0' : (0 : Int) < (n : Int) := by omega
    clear hr
    go_enter Try.func127, Try.ntmps127
    go_wp2_with (at_builtin; refine Lib.wpList_append_run _ rfl _ _ 22 3 rfl _ _ rfl rfl _ _ HR.out ?_)
    go_ret
    exact ⟨_, rfl, HG.out.1, HG.out.2⟩
  · obtain rfl : n = 0 := by omega
    go_enter Try.func127, Try.ntmps127
    go_wp2
    go_ret
    exact ⟨_, rfl, World.ownsRow_nil _ _ _ _, ⟨rfl, rfl, rfl, Nat.le_refl _, fun _ _ _ => rfl⟩⟩

/-- a source of no byte is appended: nothing turns -/
theorem app_none {w : World} {base e size n : Nat} {v : Value} {xs : List Value} (h : w.ownsRow base e size v n xs) (c : Nat) : (Builtin.append_ #[22, 22] 22 #[v, .slice none 0 c]).run Try.prog w = .ok v w := by
  obtain ⟨i0, hi, hz0, hz1, hz2⟩ := info_parts byte_info
  rcases h.2 with ⟨rfl, rfl⟩ | ⟨g, cap, cur, rfl, _, _, hc, _⟩
  · simp [Builtin.append_, Builtin.lenOf, Builtin.firstCells, run_underlying Try.underlying22, sizeOf, typeInfo, hi]
  · simp [Builtin.append_, Builtin.lenOf, Builtin.firstCells, run_underlying Try.underlying22, sizeOf, typeInfo, hi, hc, storeCells]

/-- a row of slices of bytes at block g -/
def PartsB (B : Nat) (w : World) (g : Nat) (ls : List (List UInt8)) : Prop := g < w.heap.size ∧ ∀ i (h : i < ls.length), ∃ v, w.cell? ⟨g, i, none⟩ = some v ∧ ByS B w v ls[i]
def ConcatP (l : List UInt8) (w : World) (e : Ending) (w' : World) : Prop := ∃ v', e = .returned v' ∧ w'.ownsRow w.heap.size 5 1 v' l.length (bcells l) ∧ Below w.heap.size w w'

theorem flat_take (ls : List (List UInt8)) (k : Nat) (h : k < ls.length) : (ls.take (k + 1)).flatten = (ls.take k).flatten ++ ls[k] := by
  rw [List.take_succ_eq_append_getElem h, List.flatten_append]; simp
theorem flat_le (ls : List (List UInt8)) (k : Nat) : (ls.take k).flatten.length ≤ ls.flatten.length := by
  have := congrArg List.length (congrArg List.flatten (List.take_append_drop k ls))
  rw [List.flatten_append, List.length_append] at this
  omega

set_option maxHeartbeats 4000000 in
set_option maxRecDepth 100000 in
theorem concat_any (B g K : Nat) (ls : List (List UInt8)) (w : World) (hK : ls.length = K) (hB : B ≤ w.heap.size) (hl : ls.flatten.length ≤ 100000) (hk : K ≤ 1000) (h : PartsB B w g ls) :
    Calls Try.prog 110 #[.slice (some ⟨g, 0, none⟩) K K] w (ConcatP ls.flatten w) := by
  obtain ⟨hg, hp⟩ := h
  have HP := Lib.hid hp
  have HK := Lib.hid hK
  have hkl : ls.length ≤ 1000 := by omega
  clear hp hK
  go_enter Try.func110, Try.ntmps110
  go_wp2
  go_loop [3, 11] (fun z i => ∃ k : Nat, k ≤ K ∧ i = .int .i64 k ∧ z = .int .i64 ((ls.take k).flatten.length : Nat)) (fun _ i => K - (intOf i).toNat)
  case atStart => exact ⟨0, Nat.zero_le _, rfl, rfl⟩
  case round =>
    obtain ⟨k, hk', rfl, rfl⟩ := hrel
    have hle := flat_le ls k
    by_cases hlt : k < K
    · obtain ⟨v, hcell, hv⟩ := HP.out k (by rw [HK.out]; exact hlt)
      obtain ⟨ao, cap, rfl, _⟩ := hv
      have hkK : k < ls.length := by rw [HK.out]; exact hlt
      have HF := Lib.hid (congrArg List.length (flat_take ls k (by rw [HK.out]; exact hlt)))
      have hle2 := flat_le ls (k + 1)
      rw [HF.out, List.length_append] at hle2
      have HF2 := Lib.hid (HF.out.trans (List.length_append))
      clear HF
      generalize (ls.take k).flatten.length = z at *
      generalize ls[k].length = y at *
      go_wp2
      go_round
      case rel => exact ⟨k + 1, by omega, by go_num, by rw [HF2.out]; go_num⟩
      case measure => simp [intOf]; omega
    · obtain rfl : k = K := by omega
      have hz : (ls.take k).flatten = ls.flatten := by rw [List.take_of_length_le (by rw [HK.out]; omega)]
      rw [hz]
      clear hz hle hlt hk'
      have GR := Lib.hid (grow_nil ls.flatten.length w hl)
      generalize hL : ls.flatten.length = L at *
      have HL := Lib.hid hL
      clear hL
      go_wp2_with fail
      refine GR.out.mono ?_
      rintro e w1 ⟨v1, rfl, ho1, hg1⟩
      have hB1 : Below w.heap.size w w1 := (Below.refl _ w).grown hg1 (Nat.le_refl _) (by intro k hk; cases hk)
      have HO1 := Lib.hid ho1
      have HB1 := Lib.hid hB1
      obtain ⟨i0, hi, hz0, hz1, hz2⟩ := info_parts byte_info
      have Hi := Lib.hid hi
      have Hz0 := Lib.hid hz0
      have Hz1 := Lib.hid hz1
      have Hz2 := Lib.hid hz2
      clear hi hz0 hz1 hz2 ho1 hg1 hB1 GR
      go_wp2
      go_loopw [6, 27] (fun v i wr => ∃ j : Nat, j ≤ k ∧ i = .int .i64 j ∧ wr.ownsRow w.heap.size 5 1 v (ls.take j).flatten.length (bcells (ls.take j).flatten) ∧ Below w.heap.size w wr) (fun _ i _ => k - (intOf i).toNat)
      case atStart => exact ⟨0, Nat.zero_le _, rfl, by simpa [bcells] using HO1.out, HB1.out⟩
      case round =>
        rename_i wr
        obtain ⟨j, hj, rfl, ho, hb⟩ := hrel
        have HO := Lib.hid ho
        have HB := Lib.hid hb
        have hsz := hb.size
        clear ho hb
        by_cases hlt : j < k
        · obtain ⟨v, hc0, hv⟩ := HP.out j (by rw [HK.out]; exact hlt)
          have hjl : j < ls.length := by rw [HK.out]; exact hlt
          have hcell := (HB.out.cell (p := ⟨g, j, none⟩) hg).trans hc0
          have HV := hv.below (HB.out.mono hB)
          clear hc0 hv
          have hle2 := flat_le ls (j + 1)
          have HF := Lib.hid (flat_take ls j hjl)
          rw [HF.out, List.length_append, HL.out] at hle2
          generalize hx : ls[j] = x at *
          clear hx
          obtain ⟨ao, cap, rfl, c1, c2, c3⟩ := HV
          cases ao with
          | none =>
            have hx0 : x = [] := by
              by_cases hx : x = []
              · exact hx
              · obtain ⟨b, off, e, _⟩ := c3 hx; cases e
            subst hx0
            have HR := Lib.hid (app_none HO.out cap)
            have HF2 := Lib.hid (show (ls.take (j + 1)).flatten = (ls.take j).flatten by rw [HF.out]; simp)
            clear c3 HF hle2 hjl
            go_wp2_with (at_builtin; refine Lib.wpList_append_run _ rfl _ _ 22 22 rfl _ _ rfl rfl _ _ HR.out ?_)
            go_roundw
            case rel => exact ⟨j + 1, by omega, by go_num, by rw [HF2.out]; exact HO.out, HB.out⟩
            case measure => simp [intOf]; omega
          | some a =>
            have hca : Hid (∀ i u, (bcells x)[i]? = some u → wr.cell? (a.add i) = some u) := by
              refine Lib.hid fun i u hu => ?_
              by_cases hx : x = []
              · subst hx; simp [bcells] at hu
              · obtain ⟨b, off, e, hb, hc⟩ := c3 hx
                obtain rfl := Option.some.inj e
                rw [addr_add]
                exact bcells_at hc i u hu
            clear c3 hjl
            go_wp2_with (at_builtin; refine wpList_append_own _ rfl _ _ 22 rfl w.heap.size 5 i0 (.int .u8 0) 1 1 Try.underlying22 Hi.out Hz0.out Hz1.out Hz2.out rfl (by omega) u6 (ls.take j).flatten.length (bcells (ls.take j).flatten) rfl HO.out a x.length cap (bcells x) rfl (by rw [bcells_len]; omega) hca.out (bcells_one _) (by unfold maxLen; omega) (by omega) hsz ?_; intro v' w2 hown hgrow _)
            have HO2 := Lib.hid hown
            have HB2 := Lib.hid (below_own HB.out HO.out hgrow (Nat.le_refl _) hsz)
            clear hown hgrow
            go_roundw
            case rel => exact ⟨j + 1, by omega, by go_num, by rw [HF.out, bcells_append, List.length_append]; exact HO2.out, HB2.out⟩
            case measure => simp [intOf]; omega
        · obtain rfl : j = k := by omega
          have HZ := Lib.hid (show (ls.take j).flatten = ls.flatten by rw [List.take_of_length_le (by rw [HK.out]; omega)])
          go_wp2
          go_ret
          exact ⟨_, rfl, by rw [← HZ.out]; exact HO.out, HB.out⟩
end Go.Proofs.Ytfipkljefmfhmaa
