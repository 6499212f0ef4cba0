/- The reference's BookText. (printed by wip/gen/gen_book.py) -/
import Derived.Test.YtljgpiaihahneaaGreatDoorT65M19
import Derived.Test.YtljgpiaihahneaaGreatDoorT65M32
import Derived.Test.YtljgpiaihahneaaGreatDoorT65M36
import Derived.Deep.RegionHeld3

namespace Go.Proofs.YtljgpiaihahneaaGreatDoor
open Go.RowKit
set_option linter.unusedVariables false
set_option linter.unusedSimpArgs false
set_option maxRecDepth 100000 in
set_option maxHeartbeats 16000000 in
theorem rbookText_any (v : Value) (l : List Gel) (w : World) (hT : TextW w) (hC : ColW w) (h : GelS w.heap.size w v l) (hf : ∀ x ∈ l, GelFit x) :
    Calls Tryz.prog 5 #[v] w fun e w' => e = .returned (.tuple #[.string (bookT l), .int .i64 (chkBook l)]) ∧ Below w.heap.size w w' := by
  have CC := Lib.hid (rchkBook_any v l w h (fun x hx => by have := (hf x hx).1; unfold maxLen at this; omega))
  have HLE := Lib.hid (fun (hE : chkBook l = 0) => bookB_le hE hf)
  have HFT := Lib.hid (fun (hE : chkBook l = 0) k (hk : k < l.length) => show l[k].name.size ≤ 60 ∧ I64 l[k].n from ⟨((chkBook_ok hE).2 _ (List.getElem_mem hk)).name.short, (hf _ (List.getElem_mem hk)).2.1⟩)
  have H4 := Lib.hid (fun (hE : chkBook l = 0) => (chkBook_ok hE).1)
  have HTK := Lib.hid (bookB_take l)
  have HVB := Lib.hid (fun (h : ¬ chkBook l = 0) => bookT_bad h)
  have HVO := Lib.hid (fun (h : chkBook l = 0) => bookT_ok h)
  have HT := Lib.hid hT
  have HC := Lib.hid hC
  obtain ⟨ao, cap, rfl, hmax, hcl⟩ := h.cells
  unfold maxLen at hmax
  clear h hf hT hC
  generalize bookT l = RES at *
  go_enter Tryz.func5, Tryz.ntmps5
  go_wp2_with fail
  refine CC.out.mono ?_
  rintro e w1 ⟨rfl, hb⟩
  have HB1 := Lib.hid hb
  clear hb CC
  by_cases hE : chkBook l = 0
  rotate_left
  · have HV := Lib.hid (HVB.out hE)
    generalize hEV : chkBook l = E at *
    have hE2 : (E == 0) = false := by simpa using hE
    clear hcl
    go_wp2_with fail
    exact bodyPost_ret (v := .tuple #[.string ⟨#[]⟩, .int .i64 E]) (by simp [results, Tryz.results5, go_sem]) rfl ⟨by rw [hEV, HV.out], HB1.out⟩
  have HV := Lib.hid (HVO.out hE)
  have HFT := Lib.hid (HFT.out hE)
  have HLE := Lib.hid (HLE.out hE)
  have hun := H4.out hE
  have hw1 := HB1.out.size
  have hEQ := Lib.hid hE
  rw [hE]
  clear HVO HVB H4 hE
  have HCL0 := Lib.hid hcl
  clear hcl
  obtain ⟨b, off, HAO, HCL⟩ : ∃ b off, Hid (l ≠ [] → ao = some ⟨b, off, none⟩) ∧ Hid (l ≠ [] → b < w.heap.size ∧ ∀ i (h : i < l.length), GelC w b (off + i * 5) l[i]) := by
    by_cases hl : l = []
    · exact ⟨0, 0, Lib.hid (fun h => absurd hl h), Lib.hid (fun h => absurd hl h)⟩
    · obtain ⟨b, off, h1, h2, h3⟩ := HCL0.out hl
      exact ⟨b, off, Lib.hid (fun _ => h1), Lib.hid (fun _ => ⟨h2, h3⟩)⟩
  clear HCL0
  have HST := Lib.hid (show bookB (l.take 0) = ⟨#[]⟩ from rfl)
  go_wp2_with fail
  go_loopw [5, 17] (fun s i wx => ∃ k : Nat, k ≤ l.length ∧ i = .int .i64 k ∧ s = .string (bookB (l.take k)) ∧ Hid (Below w1.heap.size w1 wx)) (fun _ i _ => l.length - (intOf i).toNat)
  case atStart => exact ⟨0, Nat.zero_le _, rfl, by rw [HST.out], Lib.hid (Below.refl _ _)⟩
  case round =>
    obtain ⟨k, hk, rfl, rfl, HWR⟩ := hrel
    have HBR := Lib.hid (HB1.out.trans (HWR.out.mono hw1))
    have hzr := HWR.out.size
    by_cases hlt : k < l.length
    · have hne : l ≠ [] := by intro e; subst e; simp at hlt
      have hao := HAO.out hne
      obtain ⟨hb, hcl2⟩ := HCL.out hne
      have HCL := Lib.hid hcl2
      subst hao
      clear hcl2 hne
      obtain ⟨d0, d1, d2, d3, d4⟩ := HCL.out k hlt
      have d0 := (HBR.out.cell (p := ⟨b, off + k * 5, none⟩) hb).trans d0
      have d1 := (HBR.out.cell (p := ⟨b, off + k * 5 + 1, none⟩) hb).trans d1
      have d2 := (HBR.out.cell (p := ⟨b, off + k * 5 + 2, none⟩) hb).trans d2
      have d3 := (HBR.out.cell (p := ⟨b, off + k * 5 + 3, none⟩) hb).trans d3
      have d4 := (HBR.out.cell (p := ⟨b, off + k * 5 + 4, none⟩) hb).trans d4
      have hbr : b < wr.heap.size := by have := HBR.out.size; omega
      obtain ⟨hn60, hi64⟩ := HFT.out k hlt
      have HS := Lib.hid (HTK.out k hlt)
      have hle := HLE.out k hk
      have PC := Lib.hid (show lineB l[k] = ((((itT l[k].n ++ (⟨#[32]⟩ : ByteArray)) ++ colS l[k].r l[k].g l[k].b) ++ (⟨#[32]⟩ : ByteArray)) ++ l[k].name) ++ (⟨#[10]⟩ : ByteArray) from rfl)
      rw [PC.out] at HS
      clear PC
      generalize hX1 : bookB (l.take (k + 1)) = X1 at *
      have HX1 := Lib.hid hX1
      clear hX1
      generalize bookB (l.take k) = X at *
      generalize l[k] = rk at *
      obtain ⟨n, nm, r, g, bl⟩ := rk
      simp only at *
      have HTW := Lib.hid (HT.out.below HBR.out)
      have HCW := Lib.hid (HC.out.below HBR.out)
      have l1 := itT_le n hi64.1 hi64.2
      have l2 := colS_le r g bl
      have CS := Lib.hid (fun W hW => rcshow_any r g bl W hW)
      have hA := (Below.refl wr.heap.size wr).alloc (Nat.le_refl _) (.cells #[.int .i64 n, .string nm, .int .i64 r, .int .i64 g, .int .i64 bl] 33)
      have HTU := Lib.hid (TBox.new wr #[.int .i64 n, .string nm, .int .i64 r, .int .i64 g, .int .i64 bl] 33)
      have HA := Lib.hid hA
      clear hA
      go_wp2_with fail
      refine (CS.out _ (HCW.out.below HA.out)).mono ?_
      rintro e w3 ⟨rfl, hb3⟩
      have HTU := Lib.hid (HTU.out.below hb3)
      have HA := Lib.hid (bt HA.out hb3)
      clear hb3 CS
      go_upto_region 9 with fail
      have KP := Lib.hid (show ∀ W, Below w3.heap.size w3 W → (W.cell? ⟨wr.heap.size, 0, none⟩ = some (.int .i64 n) ∧ W.cell? ⟨wr.heap.size, 1, none⟩ = some (.string nm) ∧ W.cell? ⟨wr.heap.size, 2, none⟩ = some (.int .i64 r) ∧ W.cell? ⟨wr.heap.size, 3, none⟩ = some (.int .i64 g) ∧ W.cell? ⟨wr.heap.size, 4, none⟩ = some (.int .i64 bl)) from fun W hW => ⟨(HTU.out.below hW).cell rfl, (HTU.out.below hW).cell rfl, (HTU.out.below hW).cell rfl, (HTU.out.below hW).cell rfl, (HTU.out.below hW).cell rfl⟩)
      have KM := Lib.hid (show ∀ W W1, Below w3.heap.size w3 W → Below W.heap.size W W1 → Below w3.heap.size w3 W1 from fun W W1 h1 h2 => h1.trans (h2.mono h1.size))
      have C1 := Lib.hid (show ∀ W, Below w3.heap.size w3 W → Calls Tryz.prog 13 #[.int .i64 n] W fun e w' => e = .returned (.string (itT n)) ∧ Below W.heap.size W w' from fun W h => itoa_int n W hi64.1 hi64.2 ((HTW.out.below HA.out).below h))
      generalize itT n = y1 at *
      generalize colS r g bl = y2 at *
      have hk4 : k < 500 := by omega
      obtain ⟨z1, q1⟩ : ∃ z, y1 ++ (⟨#[32]⟩ : ByteArray) = z := ⟨_, rfl⟩
      have s1 : z1.size = y1.size + 1 := by rw [← q1, ByteArray.size_append]; rfl
      obtain ⟨z2, q2⟩ : ∃ z, z1 ++ y2 = z := ⟨_, rfl⟩
      have s2 : z2.size = z1.size + y2.size := by rw [← q2, ByteArray.size_append]
      obtain ⟨z3, q3⟩ : ∃ z, z2 ++ (⟨#[32]⟩ : ByteArray) = z := ⟨_, rfl⟩
      have s3 : z3.size = z2.size + 1 := by rw [← q3, ByteArray.size_append]; rfl
      obtain ⟨z4, q4⟩ : ∃ z, z3 ++ nm = z := ⟨_, rfl⟩
      have s4 : z4.size = z3.size + nm.size := by rw [← q4, ByteArray.size_append]
      obtain ⟨z5, q5⟩ : ∃ z, z4 ++ (⟨#[10]⟩ : ByteArray) = z := ⟨_, rfl⟩
      have s5 : z5.size = z4.size + 1 := by rw [← q5, ByteArray.size_append]; rfl
      have c1 : (9223372036854775807 < y1.size + 1) = False := eq_false (by omega)
      have d1 : (9223372036854775807 ≤ y1.size) = False := eq_false (by omega)
      have c2 : (9223372036854775807 < z1.size + y2.size) = False := eq_false (by omega)
      have c3 : (9223372036854775807 < z2.size + 1) = False := eq_false (by omega)
      have d3 : (9223372036854775807 ≤ z2.size) = False := eq_false (by omega)
      have c4 : (9223372036854775807 < z3.size + nm.size) = False := eq_false (by omega)
      have c5 : (9223372036854775807 < z4.size + 1) = False := eq_false (by omega)
      have d5 : (9223372036854775807 ≤ z4.size) = False := eq_false (by omega)
      rw [q1, q2, q3, q4, q5] at HS
      have hz7 : z5.size ≤ 100 := by omega

      have c8 : (9223372036854775807 < X.size + z5.size) = False := eq_false (by omega)
      clear s1 s2 s3 s4 s5 l1 l2
      have hw0 := Below.refl w3.heap.size w3
      have hw1' := (Below.refl w3.heap.size w3).drew
      go_region_held3 (fun W => W.cell? ⟨wr.heap.size, 0, none⟩ = some (.int .i64 n) ∧ W.cell? ⟨wr.heap.size, 1, none⟩ = some (.string nm) ∧ W.cell? ⟨wr.heap.size, 2, none⟩ = some (.int .i64 r) ∧ W.cell? ⟨wr.heap.size, 3, none⟩ = some (.int .i64 g) ∧ W.cell? ⟨wr.heap.size, 4, none⟩ = some (.int .i64 bl))
        (with_reducible first | assumption | exact KP.out _ (by assumption) | exact KP.out _ (Below.drew (by assumption)))
        (first
          | (go_at_call 13; (with_reducible refine (C1.out _ (by with_reducible first | assumption | exact Below.drew (by assumption))).mono ?_); rintro e W1 ⟨rfl, hb1⟩; have hA1 := KM.out _ _ (by with_reducible first | assumption | exact Below.drew (by assumption)) hb1; clear hb1)
          | fail)
      all_goals
        have HBW := Lib.hid (show Below w1.heap.size w1 _ from (HWR.out.trans (HA.out.mono hzr)).trans (Below.mono hA1 (by have := HA.out.size; omega)))
        go_wp2_with fail
        go_roundw
        case rel => exact ⟨k + 1, by omega, by first | rfl | go_num, by rw [HX1.out, HS.out], HBW⟩
        case measure => simp [intOf]; omega
    · have hkk : k = l.length := by omega
      subst hkk
      rw [List.take_length]
      have hsz : (bookB l).size ≤ 60000 := by have := HLE.out l.length (Nat.le_refl _); rw [List.take_length] at this; omega
      have hgt : decide ((60000 : Int) < ((bookB l).size : Int)) = false := by simp; omega
      have hgt2 : ¬ ((60000 : Int) < ((bookB l).size : Int)) := by omega
      have HBF := Lib.hid HBR.out
      clear HBR HWR
      generalize hP : bookB l = P at *
      have HP := Lib.hid hP
      clear hP
      go_wp2_with fail
      exact bodyPost_ret (v := .tuple #[.string P, .int .i64 0]) (by simp [results, Tryz.results5, go_sem]) rfl ⟨by rw [hEQ.out, HV.out], HBF.out⟩
end Go.Proofs.YtljgpiaihahneaaGreatDoor
