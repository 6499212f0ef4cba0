/- The reference's Read of effects at any text. (printed by wip/gen/gen_erread2.py from erread.txt) -/
import Derived.Test.YtfidbdegggalmaaGreatDoorT66M36
import Derived.Test.YtfidbdegggalmaaGreatDoorT66M24
import Derived.Test.YtfidbdegggalmaaGreatDoorT66M33
import Derived.Test.YtfidbdegggalmaaGreatDoorT66M37
import Derived.Deep.DeepCutAuto

namespace Go.Proofs.YtfidbdegggalmaaGreatDoor
open Go.RowKit
set_option linter.unusedVariables false
set_option linter.unusedSimpArgs false

def QS (w : World) (g : Nat) (R : List ByteArray) (bad : Bool) (cs : Array Value) (W : World) : Prop := RX W g (w.heap.size + 1) R bad ∧ TBox W (g + 1) 24 cs ∧ TBox W w.heap.size 24 #[.int .i64 0, .int .i64 0, .int .i64 0, .int .i64 0, .int .i64 0, .int .i64 0, .bool false, .bool false, .slice none 0 0] ∧ Below w.heap.size w W
section
variable {w W W' : World} {g : Nat} {R R' : List ByteArray} {bad bad' : Bool} {cs : Array Value}
theorem QS.lt (h : QS w g R bad cs W) (hg : w.heap.size + 1 < g) : w.heap.size + 1 < W.heap.size := by
  have := h.2.1.lt
  omega
theorem QS.kx (h : QS w g R bad cs W) (hg : w.heap.size + 1 < g) (hR : RX W' g (w.heap.size + 1) R' bad') (hk : KeepX g g W W') : QS w g R' bad' cs W' :=
  ⟨hR, hk.2.1 _ _ _ (by omega) (by omega) h.2.1, hk.2.1 _ _ _ (by omega) (by omega) h.2.2.1, h.2.2.2.trans (hk.1 w.heap.size (by omega) (by omega) h.2.2.2.size)⟩
theorem QS.setE (h : QS w g R bad cs W) (hg : w.heap.size + 1 < g) (i : Nat) (v : Value) : QS w g R bad (cs.setIfInBounds i v) (W.setCell ⟨g + 1, i, none⟩ v) :=
  ⟨h.1.setO (by omega) (by omega), h.2.1.set i v, h.2.2.1.setOther (by omega) v, h.2.2.2.setCell (p := ⟨g + 1, i, none⟩) (by show w.heap.size ≤ g + 1; omega) v⟩
theorem QS.below (h : QS w g R bad cs W) (hg : w.heap.size + 1 < g) (hb : Below W.heap.size W W') : QS w g R bad cs W' :=
  ⟨h.1.below (h.lt hg) hb, h.2.1.below hb, h.2.2.1.below hb, h.2.2.2.trans (hb.mono h.2.2.2.size)⟩
end
theorem wdT_mem {s : ByteArray} {R : List ByteArray} : ∀ x ∈ wdT s R, x ∈ R := fun x hx => isT_mem x (List.mem_of_mem_tail hx)
theorem spT_mem {R : List ByteArray} : ∀ x ∈ spT R, x ∈ R := by
  intro x hx
  unfold spT at hx
  split at hx
  · exact isT_mem x (List.mem_of_mem_tail hx)
  · exact isT_mem x hx
set_option maxRecDepth 100000 in
theorem wordsR_any (w : World) : Calls Tryz.prog 11 #[] w fun e w' => e = .returned (.slice (some ⟨w.heap.size, 0, none⟩) 8 8) ∧ TBox w' w.heap.size 9 #[.string ⟨#[]⟩, .string ⟨#[116, 114, 105, 97, 110, 103, 108, 101]⟩, .string ⟨#[117, 112]⟩, .string ⟨#[100, 111, 119, 110]⟩, .string ⟨#[115, 113, 117, 97, 114, 101]⟩, .string ⟨#[115, 111, 102, 116]⟩, .string ⟨#[99, 104, 97, 110, 99, 101]⟩, .string ⟨#[115, 116, 101, 112, 115]⟩] ∧ Below w.heap.size w w' := by
  go_enter Tryz.func11, Tryz.ntmps11
  go_wp2
  go_ret
  exact ⟨rfl, TBox.new _ _ _, (Below.refl _ _).alloc (Nat.le_refl _) _⟩
theorem idxR_any (b : Nat) (f : ByteArray) (W : World) (h : TBox W b 9 #[.string ⟨#[]⟩, .string ⟨#[116, 114, 105, 97, 110, 103, 108, 101]⟩, .string ⟨#[117, 112]⟩, .string ⟨#[100, 111, 119, 110]⟩, .string ⟨#[115, 113, 117, 97, 114, 101]⟩, .string ⟨#[115, 111, 102, 116]⟩, .string ⟨#[99, 104, 97, 110, 99, 101]⟩, .string ⟨#[115, 116, 101, 112, 115]⟩]) : Calls Tryz.prog 10 #[.slice (some ⟨b, 0, none⟩) 8 8, .string f] W fun e w' => e = .returned (.int .i64 (Lib.idxOfS wdsL f)) ∧ w' = W :=
  Tryz.slices_Index_string b 0 8 8 wdsL f W (by decide) (by omega) (fun j hj => by
    have h8 : j < 8 := hj
    have hk : j = 0 ∨ j = 1 ∨ j = 2 ∨ j = 3 ∨ j = 4 ∨ j = 5 ∨ j = 6 ∨ j = 7 := by omega
    rcases hk with rfl | rfl | rfl | rfl | rfl | rfl | rfl | rfl
    all_goals exact h.cell rfl)
open Go (info_parts)
theorem step_ownP {w : World} {ops : Array Oper} {o : Oper} {a : Act} {K : Act → World → Prop} {Q : Exit → Act → World → Prop} {E : Prop} (hgd : o.guard = none) (s x : Operand)
    (hop : o.op = .call { callee := .builtin .append, args := #[s, x], argTypes := #[22, 22] })
    (base c : Nat) (v : Value) (l : List Stp) (y : Stp) (ad : Addr) (hs : a.eval s = v) (hx : a.eval x = .slice (some ad) 1 c)
    (ho : OwnP base w v l) (hc : ∀ (j : Nat) u, (stC3 y)[j]? = some u → w.cell? (ad.add j) = some u) (hl : l.length ≤ 10000000) (hb : base ≤ w.heap.size)
    (h : ∀ v' w', OwnP base w' v' (l ++ [y]) → w.grownBy w' v.ownBlock → K (a.put o.dst v') w') : if Region.wanted o (yielded ops a.tmps) = true then Oper.wp Tryz.prog o a w K Q else E := by
  obtain ⟨i0, hi, hz0, hz1, hz2⟩ := info_parts infoOwnP
  rw [if_pos (by simp [Region.wanted, hgd])]
  refine wp_append_own w s x 22 hop base 44 i0 (.agg #[.int .i64 0, .int .i64 0, .int .i64 0]) 3 24 Tryz.underlying22 hi hz0 hz1 hz2 rfl (by decide) v l.length (l.flatMap stC3) hs ho ad 1 c (stC3 y) hx rfl hc (by intro u hu; simp [stC3] at hu; rcases hu with rfl | rfl | rfl <;> rfl) (by unfold maxLen; omega) (by omega) hb ?_
  intro v' w' h1 h2 _
  refine h v' w' ?_ h2
  unfold OwnP
  rw [List.flatMap_append, List.length_append]
  simpa using h1
theorem ownP_kx {g : Nat} {W W' : World} {v : Value} {l : List Stp} (h : OwnP (g + 2) W v l) (k : KeepX g g W W') : OwnP (g + 2) W' v l := by
  refine ⟨h.1, ?_⟩
  rcases h.2 with h' | ⟨b, cap, cur, e1, h1, h2, h3⟩
  · exact .inl h'
  · exact .inr ⟨b, cap, cur, e1, h1, k.2.1 b 44 _ (by omega) (by omega) h2, h3⟩
theorem QS.grownP {w W W' : World} {g : Nat} {R : List ByteArray} {bad : Bool} {cs : Array Value} {v : Value} {l : List Stp} (h : QS w g R bad cs W) (hg : w.heap.size + 1 < g) (ho : OwnP (g + 2) W v l) (hgr : W.grownBy W' v.ownBlock) : QS w g R bad cs W' := by
  obtain ⟨⟨o, cap, h1, h2, h3, h4⟩, k1, k2, k3⟩ := h
  have hb : Below (g + 2) W W' := ho.keeps (Below.refl _ _) hgr (Nat.le_refl _) (by have := k1.lt; omega)
  exact ⟨⟨o, cap, h1.grownP ho hgr (by omega), h2.keep (by omega) hb, h3, h4⟩, k1.grownP ho hgr (by omega), k2.grownP ho hgr (by omega), k3.trans (hb.mono (by omega))⟩
set_option maxRecDepth 100000 in
set_option maxHeartbeats 16000000 in
theorem rRead_any (s : ByteArray) (w : World) (hT : TextW w) :
    Calls Tryz.prog 5 #[.string s] w (ReadPost s w) := by
  have HPZ := Lib.hid (show ∀ f w', rdR s = zEff → rdE s = f → Below w.heap.size w w' → ReadPost s w (.returned (.tuple #[.agg #[.int .i64 0, .int .i64 0, .int .i64 0, .int .i64 0, .int .i64 0, .int .i64 0, .bool false, .bool false, .slice none 0 0], .int .i64 f])) w' from fun f w' h1 h2 hb => by
    refine ⟨hb, .slice none 0 0, ?_, ?_⟩
    · rw [h1, h2]; rfl
    · rw [h1]; exact ⟨none, 0, rfl, Nat.zero_le _, fun h => absurd rfl h⟩)
  have HPE := Lib.hid (show ∀ E sv w', rdR s = E → rdE s = 0 → StS w'.heap.size w' sv E.steps → Below w.heap.size w w' → ReadPost s w (.returned (.tuple #[effV E sv, .int .i64 0])) w' from fun E sv w' h1 h2 h3 hb => by
    refine ⟨hb, sv, ?_, ?_⟩
    · rw [h1, h2]
    · rw [h1]; exact h3)
  have HZ0 := Lib.hid (show TBox (w.alloc (.cells #[.int .i64 0, .int .i64 0, .int .i64 0, .int .i64 0, .int .i64 0, .int .i64 0, .bool false, .bool false, .slice none 0 0] 24)) w.heap.size 24 #[.int .i64 0, .int .i64 0, .int .i64 0, .int .i64 0, .int .i64 0, .int .i64 0, .bool false, .bool false, .slice none 0 0] from TBox.new w _ _)
  have HB0 := Lib.hid (show Below w.heap.size w (w.alloc (.cells #[.int .i64 0, .int .i64 0, .int .i64 0, .int .i64 0, .int .i64 0, .int .i64 0, .bool false, .bool false, .slice none 0 0] 24)) from (Below.refl _ _).alloc (Nat.le_refl _) _)
  by_cases hl : 4000 < s.size
  · have HRR := Lib.hid (show rdR s = zEff from if_pos hl)
    have HRF := Lib.hid (show rdE s = 2 from if_pos hl)
    have hl2 : (4000 : Int) < (s.size : Int) := by omega
    clear hT hl
    go_enter Tryz.func5, Tryz.ntmps5
    go_upto_region 1 with fail
    have hZ := HZ0.out
    have hB := HB0.out
    generalize w.alloc (.cells #[.int .i64 0, .int .i64 0, .int .i64 0, .int .i64 0, .int .i64 0, .int .i64 0, .bool false, .bool false, .slice none 0 0] 24) = w1 at *
    clear HZ0 HB0
    go_upto_region 2 with fail
    go_cut [3] (fun s wx => s = .int .i64 (2) ∧ Hid (TBox wx w.heap.size 24 #[.int .i64 0, .int .i64 0, .int .i64 0, .int .i64 0, .int .i64 0, .int .i64 0, .bool false, .bool false, .slice none 0 0]) ∧ Hid (Below w.heap.size w wx))
    case first =>
      have r0 := hZ.cell (i := 0) rfl
      have r1 := hZ.cell (i := 1) rfl
      have r2 := hZ.cell (i := 2) rfl
      have r3 := hZ.cell (i := 3) rfl
      have r4 := hZ.cell (i := 4) rfl
      have r5 := hZ.cell (i := 5) rfl
      have r6 := hZ.cell (i := 6) rfl
      have r7 := hZ.cell (i := 7) rfl
      have r8 := hZ.cell (i := 8) rfl
      have z0 := hZ.frozen 0
      have z1 := hZ.frozen 1
      have z2 := hZ.frozen 2
      have z3 := hZ.frozen 3
      have z4 := hZ.frozen 4
      have z5 := hZ.frozen 5
      have z6 := hZ.frozen 6
      have z7 := hZ.frozen 7
      have z8 := hZ.frozen 8
      have rl2 := hZ.lt
      have HXB := Lib.hid (set9_box (w := w1) hZ (u0 := .int .i64 0) (u1 := .int .i64 0) (u2 := .int .i64 0) (u3 := .int .i64 0) (u4 := .int .i64 0) (u5 := .int .i64 0) (u6 := .bool false) (u7 := .bool false) (u8 := .slice none 0 0))
      have HB9 := Lib.hid (set9_below (W := w1) hB (show w.heap.size ≤ w.heap.size from Nat.le_refl _) (.int .i64 0) (.int .i64 0) (.int .i64 0) (.int .i64 0) (.int .i64 0) (.int .i64 0) (.bool false) (.bool false) (.slice none 0 0))
      clear hZ hB 
      go_wp2_with fail
      go_meet
      exact ⟨rfl, HXB, HB9⟩
    case rest =>
      rename_i KK hKK
      obtain ⟨rfl, HQ, HB9⟩ := hcut
      have x0 := HQ.out.cell (i := 0) rfl
      have x1 := HQ.out.cell (i := 1) rfl
      have x2 := HQ.out.cell (i := 2) rfl
      have x3 := HQ.out.cell (i := 3) rfl
      have x4 := HQ.out.cell (i := 4) rfl
      have x5 := HQ.out.cell (i := 5) rfl
      have x6 := HQ.out.cell (i := 6) rfl
      have x7 := HQ.out.cell (i := 7) rfl
      have x8 := HQ.out.cell (i := 8) rfl
      refine hKK _ _ (wp_ret ?_)
      exact bodyPost_ret (v := .tuple #[.agg #[.int .i64 0, .int .i64 0, .int .i64 0, .int .i64 0, .int .i64 0, .int .i64 0, .bool false, .bool false, .slice none 0 0], .int .i64 (2)]) (by simp [results, Tryz.results5, go_sem, x0, x1, x2, x3, x4, x5, x6, x7, x8]) rfl (HPZ.out 2 _ HRR.out HRF.out HB9.out)
  have HRR0 := Lib.hid (show rdR s = match prsE (wordsB 32 s) with | none => zEff | some E => if chkEf E = 0 then E else zEff from if_neg hl)
  have HRF0 := Lib.hid (show rdE s = match prsE (wordsB 32 s) with | none => 9 | some E => chkEf E from if_neg hl)
  have hl2 : ¬ ((4000 : Int) < (s.size : Int)) := by omega
  have CS := Lib.hid (fun W (hb : Below w.heap.size w W) => split_any 32 s W (hT.below hb) (by omega))
  have HWL := Lib.hid (wordsB_le 32 s)
  have HWS := Lib.hid (wordsB_size 32 s)
  have HWP := wordsB_pos 32 s
  obtain ⟨f, R0, hfr⟩ : ∃ f R0, wordsB 32 s = f :: R0 := by
    cases hw : wordsB 32 s with
    | nil => rw [hw] at HWP; simp at HWP
    | cons f R0 => exact ⟨f, R0, rfl⟩
  rw [hfr] at CS HWL HWS HRR0 HRF0
  have HLEN := Lib.hid (show (f :: R0).length ≤ 100000 by have := HWL.out; omega)
  have HSZ := Lib.hid (show ∀ x ∈ f :: R0, x.size ≤ 5000 from fun x hx => by have := HWS.out x hx; omega)
  have HTX := Lib.hid (show ∀ W, Below w.heap.size w W → TextW W from fun W hb => hT.below hb)
  obtain ⟨RES, hRES⟩ : ∃ r, prsE (f :: R0) = r := ⟨_, rfl⟩
  have HRES := Lib.hid (show RES = if fmI f 7 = 0 then none else lvC froB R0 (fun lo R => lvC toB R (fun hi R => prsC (fmI f 7) lo hi R)) by rw [← hRES]; exact prsE_lv f R0)
  rw [hRES] at HRR0 HRF0
  have HN0 := Lib.hid (show RES = none → rdR s = zEff ∧ rdE s = 9 from fun h => by rw [HRR0.out, HRF0.out, h]; exact ⟨rfl, rfl⟩)
  have HS0 := Lib.hid (show ∀ E, RES = some E → rdR s = (if chkEf E = 0 then E else zEff) ∧ rdE s = chkEf E from fun E h => by rw [HRR0.out, HRF0.out, h]; exact ⟨rfl, rfl⟩)
  have HIX := Lib.hid (idx_fm f)
  clear HWL HWS HWP hfr hl hT hRES HRR0 HRF0
  go_enter Tryz.func5, Tryz.ntmps5
  go_wp2_with fail
  refine (CS.out _ HB0.out).mono ?_
  rintro e w2 ⟨rfl, hrow, hb2, hlt2⟩
  have hsz : (w.alloc (.cells #[.int .i64 0, .int .i64 0, .int .i64 0, .int .i64 0, .int .i64 0, .int .i64 0, .bool false, .bool false, .slice none 0 0] 24)).heap.size = w.heap.size + 1 := by simp
  have HZ2 := Lib.hid (HZ0.out.below hb2)
  have HB2 := Lib.hid (HB0.out.trans (hb2.mono HB0.out.size))
  rw [hsz] at hrow hlt2
  have HQ5 := Lib.hid (show QS w w2.heap.size (f :: R0) false #[.int .i64 0, .int .i64 0, .int .i64 0, .int .i64 0, .int .i64 0, .int .i64 0, .bool false, .bool false, .slice none 0 0] ((w2.alloc (.cells #[.slice (some ⟨w.heap.size + 1, 0, none⟩) (f :: R0).length (f :: R0).length, .bool false] 37)).alloc (.cells #[.int .i64 0, .int .i64 0, .int .i64 0, .int .i64 0, .int .i64 0, .int .i64 0, .bool false, .bool false, .slice none 0 0] 24)) from by
    have hba : Below w2.heap.size w2 ((w2.alloc (.cells #[.slice (some ⟨w.heap.size + 1, 0, none⟩) (f :: R0).length (f :: R0).length, .bool false] 37)).alloc (.cells #[.int .i64 0, .int .i64 0, .int .i64 0, .int .i64 0, .int .i64 0, .int .i64 0, .bool false, .bool false, .slice none 0 0] 24)) := ((Below.refl _ _).alloc (Nat.le_refl _) _).alloc (by simp) _
    refine ⟨⟨0, _, (TBox.new w2 _ _).alloc _, hrow.keep hlt2 hba, Nat.le_refl _, HLEN.out⟩, ?_, HZ2.out.below hba, HB2.out.trans (hba.mono HB2.out.size)⟩
    have := TBox.new (w2.alloc (.cells #[.slice (some ⟨w.heap.size + 1, 0, none⟩) (f :: R0).length (f :: R0).length, .bool false] 37)) #[.int .i64 0, .int .i64 0, .int .i64 0, .int .i64 0, .int .i64 0, .int .i64 0, .bool false, .bool false, .slice none 0 0] 24
    simpa only [World.size_alloc] using this)
  have hg : w.heap.size + 1 < w2.heap.size := hlt2
  clear hb2 HZ0 HB0 CS hsz hrow hlt2 HZ2 HB2 HLEN
  go_upto_region 5 with fail
  simp only [List.length_cons] at HQ5
  generalize (w2.alloc (.cells #[.slice (some ⟨w.heap.size + 1, 0, none⟩) (R0.length + 1) (R0.length + 1), .bool false] 37)).alloc (.cells #[.int .i64 0, .int .i64 0, .int .i64 0, .int .i64 0, .int .i64 0, .int .i64 0, .bool false, .bool false, .slice none 0 0] 24) = w5 at *
  generalize w2.heap.size = g at *
  go_wp2_with fail
  refine (wordsR_any w5).mono ?_
  rintro e w6 ⟨rfl, hwd, hb6⟩
  have HQ6 := Lib.hid (HQ5.out.below hg hb6)
  have hgw : g + 1 < w5.heap.size := HQ5.out.2.1.lt
  have HWD := Lib.hid hwd
  clear hwd hb6 HQ5
  go_wp2_with fail
  refine (next_any (f :: R0) false g (w.heap.size + 1) w6 HQ6.out.1 (by omega) (HQ6.out.lt hg)).mono ?_
  rintro e w7 ⟨rfl, hx, kx⟩
  have HQ7 := Lib.hid (HQ6.out.kx hg (R' := R0) (bad' := false) hx kx)
  have HWD7 := Lib.hid (kx.2.1 _ _ _ (by omega) (by omega) HWD.out)
  have HSR0 := Lib.hid (show ∀ x ∈ R0, x.size ≤ 5000 from fun x hx => HSZ.out x (by simp [hx]))
  clear hx kx HQ6 HWD HSZ
  go_wp2_with fail
  refine (idxR_any w5.heap.size f w7 HWD7.out).mono ?_
  rintro e w7' ⟨rfl, rfl⟩
  clear HWD7 hgw
  generalize Lib.idxOfS wdsL f = ix at *
  obtain ⟨hX, hE, hZ, hB⟩ := HQ7.out
  have ql := hE.lt
  have y0 := hE.frozen 0
  have q0 := hE.cell (i := 0) rfl
  clear hX hE hZ hB
  go_upto_region 6 with fail
  clear ql y0 q0
  have HQ8 := Lib.hid (show QS w g R0 false #[.int .i64 ix, .int .i64 0, .int .i64 0, .int .i64 0, .int .i64 0, .int .i64 0, .bool false, .bool false, .slice none 0 0] (w7'.setCell ⟨g + 1, 0, none⟩ (.int .i64 ix)) from HQ7.out.setE hg 0 _)
  generalize w7'.setCell ⟨g + 1, 0, none⟩ (.int .i64 ix) = w8 at *
  clear HQ7
  obtain ⟨hX, hE, hZ, hB⟩ := HQ8.out
  have q0 := hE.cell (i := 0) rfl
  have ql := hE.lt
  by_cases hix : ix ≤ 0
  · have HN := Lib.hid (HN0.out (by rw [HRES.out]; rcases HIX.out with h | h; exact if_pos h.1; omega))
    have HRR := Lib.hid HN.out.1
    have HRF := Lib.hid HN.out.2
    clear hX HIX HRES HN0 HN HS0
    go_upto_region 7 with fail
    go_cut [3] (fun s wx => s = .int .i64 (9) ∧ Hid (TBox wx w.heap.size 24 #[.int .i64 0, .int .i64 0, .int .i64 0, .int .i64 0, .int .i64 0, .int .i64 0, .bool false, .bool false, .slice none 0 0]) ∧ Hid (Below w.heap.size w wx))
    case first =>
      have q0 := hE.cell (i := 0) rfl
      have q1 := hE.cell (i := 1) rfl
      have q2 := hE.cell (i := 2) rfl
      have q3 := hE.cell (i := 3) rfl
      have q4 := hE.cell (i := 4) rfl
      have q5 := hE.cell (i := 5) rfl
      have q6 := hE.cell (i := 6) rfl
      have q7 := hE.cell (i := 7) rfl
      have q8 := hE.cell (i := 8) rfl
      have ql := hE.lt
      have r0 := hZ.cell (i := 0) rfl
      have r1 := hZ.cell (i := 1) rfl
      have r2 := hZ.cell (i := 2) rfl
      have r3 := hZ.cell (i := 3) rfl
      have r4 := hZ.cell (i := 4) rfl
      have r5 := hZ.cell (i := 5) rfl
      have r6 := hZ.cell (i := 6) rfl
      have r7 := hZ.cell (i := 7) rfl
      have r8 := hZ.cell (i := 8) rfl
      have z0 := hZ.frozen 0
      have z1 := hZ.frozen 1
      have z2 := hZ.frozen 2
      have z3 := hZ.frozen 3
      have z4 := hZ.frozen 4
      have z5 := hZ.frozen 5
      have z6 := hZ.frozen 6
      have z7 := hZ.frozen 7
      have z8 := hZ.frozen 8
      have rl2 := hZ.lt
      have HXB := Lib.hid (set9_box (w := w8) hZ (u0 := .int .i64 0) (u1 := .int .i64 0) (u2 := .int .i64 0) (u3 := .int .i64 0) (u4 := .int .i64 0) (u5 := .int .i64 0) (u6 := .bool false) (u7 := .bool false) (u8 := .slice none 0 0))
      have HB9 := Lib.hid (set9_below (W := w8) hB (show w.heap.size ≤ w.heap.size from Nat.le_refl _) (.int .i64 0) (.int .i64 0) (.int .i64 0) (.int .i64 0) (.int .i64 0) (.int .i64 0) (.bool false) (.bool false) (.slice none 0 0))
      clear hZ hB hE
      go_wp2_with fail
      go_meet
      exact ⟨rfl, HXB, HB9⟩
    case rest =>
      rename_i KK hKK
      obtain ⟨rfl, HQ, HB9⟩ := hcut
      have x0 := HQ.out.cell (i := 0) rfl
      have x1 := HQ.out.cell (i := 1) rfl
      have x2 := HQ.out.cell (i := 2) rfl
      have x3 := HQ.out.cell (i := 3) rfl
      have x4 := HQ.out.cell (i := 4) rfl
      have x5 := HQ.out.cell (i := 5) rfl
      have x6 := HQ.out.cell (i := 6) rfl
      have x7 := HQ.out.cell (i := 7) rfl
      have x8 := HQ.out.cell (i := 8) rfl
      refine hKK _ _ (wp_ret ?_)
      exact bodyPost_ret (v := .tuple #[.agg #[.int .i64 0, .int .i64 0, .int .i64 0, .int .i64 0, .int .i64 0, .int .i64 0, .bool false, .bool false, .slice none 0 0], .int .i64 (9)]) (by simp [results, Tryz.results5, go_sem, x0, x1, x2, x3, x4, x5, x6, x7, x8]) rfl (HPZ.out 9 _ HRR.out HRF.out HB9.out)
  obtain ⟨FM, hFM⟩ : ∃ FM, fmI f 7 = FM := ⟨_, rfl⟩
  rw [hFM] at HIX HRES
  obtain rfl : ix = FM := by rcases HIX.out with h | h; omega; exact h.2.2
  have hFM7 : 1 ≤ ix ∧ ix ≤ 7 := by rcases HIX.out with h | h; omega; exact ⟨h.1, h.2.1⟩
  have HR1 := Lib.hid (show RES = bN false (lvC froB R0 (fun lo R => lvC toB R (fun hi R => prsC ix lo hi R))) by rw [HRES.out, if_neg (by omega)]; rfl)
  clear HIX HRES hFM hX hE hZ hB
  have HR2 := Lib.hid (HR1.out.trans (lv_step froB R0 false _))
  clear HR1
  go_wp2_with fail
  refine (level_r froB R0 false g (w.heap.size + 1) w8 HQ8.out.1 (by omega) (HQ8.out.lt hg) HSR0.out).mono ?_
  rintro e w9 ⟨rfl, hx, kx⟩
  have HQ9 := Lib.hid (HQ8.out.kx hg hx kx)
  have HSR1 := Lib.hid (show ∀ x ∈ wdT froB R0, x.size ≤ 5000 from fun x hx => HSR0.out x (wdT_mem x hx))
  clear hx kx HQ8 HSR0 q0 ql hix
  generalize (lvW (wdV froB R0)).getD 0 = lo at *
  generalize (wdB froB R0 false || (lvW (wdV froB R0)).isNone) = b1 at *
  generalize wdT froB R0 = R1 at *
  have HR3 := Lib.hid (HR2.out.trans (lv_step toB R1 b1 _))
  clear HR2
  go_wp2_with fail
  refine (level_r toB R1 b1 g (w.heap.size + 1) w9 HQ9.out.1 (by omega) (HQ9.out.lt hg) HSR1.out).mono ?_
  rintro e w10 ⟨rfl, hx, kx⟩
  have HQ10 := Lib.hid (HQ9.out.kx hg hx kx)
  have HSR2 := Lib.hid (show ∀ x ∈ wdT toB R1, x.size ≤ 5000 from fun x hx => HSR1.out x (wdT_mem x hx))
  clear hx kx HQ9 HSR1
  generalize (lvW (wdV toB R1)).getD 0 = hi at *
  generalize (wdB toB R1 b1 || (lvW (wdV toB R1)).isNone) = b2 at *
  generalize wdT toB R1 = R2 at *
  have HR4 := Lib.hid (show RES = bN b2 (prsC ix lo hi R2) from HR3.out)
  clear HR3
  obtain ⟨hX, hE, hZ, hB⟩ := HQ10.out
  have ql := hE.lt
  have y1 := hE.frozen 1
  have q1 := hE.cell (i := 1) rfl
  have y2 := hE.frozen 2
  have q2 := hE.cell (i := 2) rfl
  clear hX hE hZ hB
  go_upto_region 9 with fail
  clear ql y1 y2 q1 q2
  have HQ11 := Lib.hid (show QS w g R2 b2 #[.int .i64 ix, .int .i64 lo, .int .i64 hi, .int .i64 0, .int .i64 0, .int .i64 0, .bool false, .bool false, .slice none 0 0] ((w10.setCell ⟨g + 1, 1, none⟩ (.int .i64 lo)).setCell ⟨g + 1, 2, none⟩ (.int .i64 hi)) from (HQ10.out.setE hg 1 _).setE hg 2 _)
  generalize (w10.setCell ⟨g + 1, 1, none⟩ (.int .i64 lo)).setCell ⟨g + 1, 2, none⟩ (.int .i64 hi) = w11 at *
  clear HQ10
  go_cut [32] (fun s wx => s = .bool (ix != 7) ∧ w11 = wx)
  case first =>
    obtain ⟨hX, hE, hZ, hB⟩ := HQ11.out
    have q0 := hE.cell (i := 0) rfl
    have ql := hE.lt
    clear hX hE hZ hB
    go_wp2_with fail
    go_meet
    exact ⟨rfl, rfl⟩
  case rest =>
  obtain ⟨rfl, rfl⟩ := hcut
  go_upto_if 32 with fail
  go_cut [] (fun wx => Hid (∃ cy R3 b3, RES = bN b3 (if ix = 4 then (match kvW widB R3 with | none => none | some (m, R4) => prsS ix lo hi cy m R4) else prsS ix lo hi cy 0 R3) ∧ (∀ x ∈ R3, x.size ≤ 5000) ∧ QS w g R3 b3 #[.int .i64 ix, .int .i64 lo, .int .i64 hi, .int .i64 cy, .int .i64 0, .int .i64 0, .bool false, .bool false, .slice none 0 0] wx))
  case first =>
    by_cases h7 : ix = 7
    · have hb7 : (ix != 7) = false := by simp [h7]
      have HX := Lib.hid (show RES = bN b2 (if ix = 4 then (match kvW widB R2 with | none => none | some (m, R4) => prsS ix lo hi 0 m R4) else prsS ix lo hi 0 0 R2) by rw [HR4.out, pC_step, if_pos h7, if_neg (by omega)])
      clear HR4 h7
      go_wp2_with fail
      go_meet
      exact Lib.hid ⟨0, R2, b2, HX.out, HSR2.out, HQ11.out⟩
    · have hb7 : (ix != 7) = true := by simp [h7]
      have HX := Lib.hid (show RES = bN (wdB cycB R2 b2 || (nbW (wdV cycB R2)).isNone) (if ix = 4 then (match kvW widB (wdT cycB R2) with | none => none | some (m, R4) => prsS ix lo hi ((nbW (wdV cycB R2)).getD 0) m R4) else prsS ix lo hi ((nbW (wdV cycB R2)).getD 0) 0 (wdT cycB R2)) by
        rw [HR4.out, pC_step, if_neg h7]
        exact kv_step cycB R2 b2 (fun n R1 => if ix = 4 then (match kvW widB R1 with | none => none | some (m, R4) => prsS ix lo hi n m R4) else prsS ix lo hi n 0 R1))
      clear HR4 h7
      go_wp2_with fail
      refine (number_r cycB R2 b2 g (w.heap.size + 1) w11 HQ11.out.1 (by omega) (HQ11.out.lt hg) HSR2.out).mono ?_
      rintro e w12 ⟨rfl, hx, kx⟩
      have HQ12 := Lib.hid (HQ11.out.kx hg hx kx)
      have HSR3 := Lib.hid (show ∀ x ∈ wdT cycB R2, x.size ≤ 5000 from fun x hx => HSR2.out x (wdT_mem x hx))
      clear hx kx HQ11 HSR2
      generalize (nbW (wdV cycB R2)).getD 0 = cy at *
      generalize (wdB cycB R2 b2 || (nbW (wdV cycB R2)).isNone) = b3 at *
      generalize wdT cycB R2 = R3 at *
      obtain ⟨hX, hE, hZ, hB⟩ := HQ12.out
      have ql := hE.lt
      have y3 := hE.frozen 3
      have q3 := hE.cell (i := 3) rfl
      clear hX hE hZ hB
      have HQ13 := Lib.hid (HQ12.out.setE hg 3 (.int .i64 cy))
      clear HQ12
      go_wp2_with fail
      go_meet
      exact Lib.hid ⟨cy, R3, b3, HX.out, HSR3.out, HQ13.out⟩
  case rest =>
  clear HQ11 HR4 HSR2
  obtain ⟨cy, R3, b3, hr, hsr, hq⟩ := hcut.out
  have HR5 := Lib.hid hr
  have HSR3 := Lib.hid hsr
  have HQ14 := Lib.hid hq
  clear hcut hr hsr hq
  obtain ⟨w14, rfl⟩ : ∃ x, x = wc := ⟨wc, rfl⟩
  go_upto_region 11 with fail
  go_cut [38] (fun s wx => s = .bool (ix == 4) ∧ w14 = wx)
  case first =>
    obtain ⟨hX, hE, hZ, hB⟩ := HQ14.out
    have q0 := hE.cell (i := 0) rfl
    have ql := hE.lt
    clear hX hE hZ hB
    go_wp2_with fail
    go_meet
    exact ⟨rfl, rfl⟩
  case rest =>
  obtain ⟨rfl, rfl⟩ := hcut
  go_upto_if 38 with fail
  go_cut [] (fun wx => Hid (∃ wd R4 b4, RES = bN b4 (prsS ix lo hi cy wd R4) ∧ (∀ x ∈ R4, x.size ≤ 5000) ∧ QS w g R4 b4 #[.int .i64 ix, .int .i64 lo, .int .i64 hi, .int .i64 cy, .int .i64 wd, .int .i64 0, .bool false, .bool false, .slice none 0 0] wx))
  case first =>
    by_cases h4 : ix = 4
    rotate_left
    · have hb4 : (ix == 4) = false := by simp [h4]
      have HX := Lib.hid (show RES = bN b3 (prsS ix lo hi cy 0 R3) by rw [HR5.out, if_neg h4])
      clear HR5 h4
      go_wp2_with fail
      go_meet
      exact Lib.hid ⟨0, R3, b3, HX.out, HSR3.out, HQ14.out⟩
    · have hb4 : (ix == 4) = true := by simp [h4]
      have HX := Lib.hid (show RES = bN (wdB widB R3 b3 || (nbW (wdV widB R3)).isNone) (prsS ix lo hi cy ((nbW (wdV widB R3)).getD 0) (wdT widB R3)) by
        rw [HR5.out, if_pos h4]
        exact kv_step widB R3 b3 (fun n R1 => prsS ix lo hi cy n R1))
      clear HR5 h4
      go_wp2_with fail
      refine (number_r widB R3 b3 g (w.heap.size + 1) w14 HQ14.out.1 (by omega) (HQ14.out.lt hg) HSR3.out).mono ?_
      rintro e w15 ⟨rfl, hx, kx⟩
      have HQ15 := Lib.hid (HQ14.out.kx hg hx kx)
      have HSR4 := Lib.hid (show ∀ x ∈ wdT widB R3, x.size ≤ 5000 from fun x hx => HSR3.out x (wdT_mem x hx))
      clear hx kx HQ14 HSR3
      generalize (nbW (wdV widB R3)).getD 0 = wd at *
      generalize (wdB widB R3 b3 || (nbW (wdV widB R3)).isNone) = b4 at *
      generalize wdT widB R3 = R4 at *
      obtain ⟨hX, hE, hZ, hB⟩ := HQ15.out
      have ql := hE.lt
      have y4 := hE.frozen 4
      have q4 := hE.cell (i := 4) rfl
      clear hX hE hZ hB
      have HQ16 := Lib.hid (HQ15.out.setE hg 4 (.int .i64 wd))
      clear HQ15
      go_wp2_with fail
      go_meet
      exact Lib.hid ⟨wd, R4, b4, HX.out, HSR4.out, HQ16.out⟩
  case rest =>
  clear HQ14 HR5 HSR3
  obtain ⟨wd, R4, b4, hr, hsr, hq⟩ := hcut.out
  have HR6 := Lib.hid (hr.trans (sp_step ix lo hi cy wd R4 b4))
  have HSR4 := Lib.hid hsr
  have HQ17 := Lib.hid hq
  clear hcut hr hsr hq
  obtain ⟨w17, rfl⟩ : ∃ x, x = wc := ⟨wc, rfl⟩
  go_wp2_with fail
  refine (spread_any R4 b4 g (w.heap.size + 1) w17 HQ17.out.1 (by omega) (HQ17.out.lt hg) HSR4.out).mono ?_
  rintro e w18 ⟨rfl, hx, kx⟩
  have HQ18 := Lib.hid (HQ17.out.kx hg hx kx)
  have HSR5 := Lib.hid (show ∀ x ∈ spT R4, x.size ≤ 5000 from fun x hx => HSR4.out x (spT_mem x hx))
  clear hx kx HQ17 HSR4
  generalize spV R4 = sp at *
  generalize spB R4 b4 = b5 at *
  generalize spT R4 = R5 at *
  obtain ⟨hX, hE, hZ, hB⟩ := HQ18.out
  have ql := hE.lt
  have y5 := hE.frozen 5
  have q5 := hE.cell (i := 5) rfl
  clear hX hE hZ hB
  go_upto_region 14 with fail
  clear ql y5 q5
  have HQ19 := Lib.hid (show QS w g R5 b5 #[.int .i64 ix, .int .i64 lo, .int .i64 hi, .int .i64 cy, .int .i64 wd, .int .i64 sp, .bool false, .bool false, .slice none 0 0] (w18.setCell ⟨g + 1, 5, none⟩ (.int .i64 sp)) from HQ18.out.setE hg 5 _)
  generalize w18.setCell ⟨g + 1, 5, none⟩ (.int .i64 sp) = w19 at *
  clear HQ18
  have HR7 := Lib.hid (show RES = bN b5 (prsT ix lo hi cy wd sp (isH bckB R5) (isH relB (isT bckB R5)) (isT relB (isT bckB R5))) by rw [HR6.out, bk_step, rl_step])
  clear HR6
  go_wp2_with fail
  refine (is_any bckB R5 b5 g (w.heap.size + 1) w19 HQ19.out.1 (by omega) (HQ19.out.lt hg)).mono ?_
  rintro e w20 ⟨rfl, hx, kx⟩
  have HQ20 := Lib.hid (HQ19.out.kx hg hx kx)
  have HSR6 := Lib.hid (show ∀ x ∈ isT bckB R5, x.size ≤ 5000 from fun x hx => HSR5.out x (isT_mem x hx))
  clear hx kx HQ19 HSR5
  generalize isH bckB R5 = bk at *
  generalize isT bckB R5 = R6 at *
  go_wp2_with fail
  refine (is_any relB R6 b5 g (w.heap.size + 1) w20 HQ20.out.1 (by omega) (HQ20.out.lt hg)).mono ?_
  rintro e w21 ⟨rfl, hx, kx⟩
  have HQ21 := Lib.hid (HQ20.out.kx hg hx kx)
  have HSR7 := Lib.hid (show ∀ x ∈ isT relB R6, x.size ≤ 5000 from fun x hx => HSR6.out x (isT_mem x hx))
  clear hx kx HQ20 HSR6
  generalize isH relB R6 = rl at *
  generalize isT relB R6 = R7 at *
  obtain ⟨hX, hE, hZ, hB⟩ := HQ21.out
  have ql := hE.lt
  have y6 := hE.frozen 6
  have q6 := hE.cell (i := 6) rfl
  have y7 := hE.frozen 7
  have q7 := hE.cell (i := 7) rfl
  clear hX hE hZ hB
  have HQ22 := Lib.hid (show QS w g R7 b5 #[.int .i64 ix, .int .i64 lo, .int .i64 hi, .int .i64 cy, .int .i64 wd, .int .i64 sp, .bool bk, .bool rl, .slice none 0 0] ((w21.setCell ⟨g + 1, 6, none⟩ (.bool bk)).setCell ⟨g + 1, 7, none⟩ (.bool rl)) from (HQ21.out.setE hg 6 _).setE hg 7 _)
  have HLR := Lib.hid (show R7.length ≤ 100000 from by obtain ⟨⟨_, _, _, _, h1, h2⟩, _⟩ := HQ22.out; omega)
  go_wp2_with fail
  generalize (w21.setCell ⟨g + 1, 6, none⟩ (.bool bk)).setCell ⟨g + 1, 7, none⟩ (.bool rl) = w22 at *
  clear HQ21 ql y6 y7 q6 q7
  go_loopg [] R7.length (fun n wx => ∃ (R : List ByteArray) (b : Bool) (acc : List Stp) (sv : Value), R.length = n ∧ Hid (RES = bN b (tlP ix lo hi cy wd sp bk rl acc R) ∧ (∀ x ∈ R, x.size ≤ 5000) ∧ acc.length + R.length ≤ 200000 ∧ QS w g R b #[.int .i64 ix, .int .i64 lo, .int .i64 hi, .int .i64 cy, .int .i64 wd, .int .i64 sp, .bool bk, .bool rl, sv] wx ∧ OwnP (g + 2) wx sv acc))
  case atStart => exact ⟨R7, b5, [], _, rfl, Lib.hid ⟨HR7.out, HSR7.out, by have := HLR.out; simp; omega, HQ22.out, OwnP.nil _ _⟩⟩
  case round =>
    clear HQ22 HR7 HSR7 HLR
    obtain ⟨R, b, acc, sv, hn, HR⟩ := hrel
    obtain ⟨hr, hsr, hln, hq, how⟩ := HR.out
    obtain ⟨ao, scap, rfl⟩ := how.shape
    have HRR := Lib.hid hr
    have HSR := Lib.hid hsr
    have HLN := Lib.hid hln
    have HQ := Lib.hid hq
    have HO := Lib.hid how
    clear hr hsr hln hq how HR
    go_upto_region 15 with fail
    go_cut [68] (fun s wx => s = .bool ((decide (ix = 7) && !R.isEmpty) && !b) ∧ wr = wx)
    case first =>
      obtain ⟨⟨o, cap, hB1, hrow, hc1, hc2⟩, hE, _, _⟩ := HQ.out
      have q0 := hE.cell (i := 0) rfl
      have ql := hE.lt
      have t1 := hB1.cell (i := 1) rfl
      have tl := hB1.lt
      by_cases h7 : ix = 7
      rotate_left
      · have hb7 : (ix == 7) = false := by simp [h7]
        have HV := Lib.hid (show ((decide (ix = 7) && !R.isEmpty) && !b) = false by rw [decide_eq_false h7]; rfl)
        clear hB1 hrow hc1 hc2 hE h7
        go_wp2_with fail
        go_meet
        exact ⟨by rw [HV.out], rfl⟩
      have hb7 : (ix == 7) = true := by simp [h7]
      have HV := Lib.hid (show ((decide (ix = 7) && !R.isEmpty) && !b) = (!R.isEmpty && !b) by rw [decide_eq_true h7]; simp)
      clear h7
      rcases R with _ | ⟨x, R'⟩
      · have t0 : wr.cell? ⟨g, 0, none⟩ = some (Value.slice (some ⟨w.heap.size + 1, o, none⟩) 0 cap) := hB1.cell (i := 0) rfl
        clear hB1 hrow hc1 hc2 hE
        go_wp2_with fail
        go_meet
        exact ⟨by rw [HV.out]; rfl, rfl⟩
      · have t0 : wr.cell? ⟨g, 0, none⟩ = some (Value.slice (some ⟨w.heap.size + 1, o, none⟩) (R'.length + 1) cap) := hB1.cell (i := 0) rfl
        have h5 : (0 : Int) < (R'.length : Int) + 1 := by omega
        clear hB1 hrow hc1 hc2 hE
        cases b
        all_goals
          go_wp2_with fail
          go_meet
          exact ⟨by rw [HV.out]; rfl, rfl⟩
    case rest =>
    obtain ⟨rfl, rfl⟩ := hcut
    cases hcn : ((decide (ix = 7) && !R.isEmpty) && !b) with
    | true =>
      obtain ⟨h7, x, R', rfl, rfl⟩ : ix = 7 ∧ ∃ x R', R = x :: R' ∧ b = false := by
        rcases R with _ | ⟨x, R'⟩
        · simp at hcn
        · cases b
          · exact ⟨by simpa using hcn, x, R', rfl, rfl⟩
          · simp at hcn
      clear hcn
      have HRN := Lib.hid (show RES = bN (stN (wordsB 58 x)) (tlP ix lo hi cy wd sp bk rl (acc ++ [stV (wordsB 58 x)]) R') by rw [HRR.out, tlP_step _ _ _ _ _ _ _ _ _ _ _ h7]; rfl)
      have HSR' := Lib.hid (show ∀ y ∈ R', y.size ≤ 5000 from fun y hy => HSR.out y (by simp [hy]))
      have hxs : x.size ≤ 5000 := HSR.out x (by simp)
      have HQd := Lib.hid (HQ.out.below hg (Below.refl _ _).drew)
      have HOd := Lib.hid (HO.out.below (Below.refl _ _).drew)
      have HST1 := Lib.hid (step_any x R' g (w.heap.size + 1) wr.drew HQd.out.1 (by omega) (HQd.out.lt hg) (by have := HQd.out.2.1.lt; omega) hxs (fun W' k => HTX.out W' (HQd.out.2.2.2.trans (k.1 w.heap.size (by omega) (by omega) HQd.out.2.2.2.size))))
      generalize stV (wordsB 58 x) = y at *
      generalize stN (wordsB 58 x) = nb at *
      clear HRR HSR hxs h7
      go_upto_region 16 with fail
      refine wp_region_held_drew (S := (fun _ => True)) (by kernel_rfl) trivial (fun hHeld => ?_)
      refine wpAnyH_take (i := 0) (oi := _) (v := ?_) rfl (by kernel_rfl) (by kernel_rfl) (by kernel_rfl) (fun _ _ _ h => h) (Or.inl ⟨by rfl, ?_⟩) trivial ?_
      rotate_left
      · (intro w hSw; (try dsimp only at hSw); go_simp <;> with_reducible rfl)
      try simp only [Act.put, List.getElem_toArray, List.getElem_cons_zero, List.getElem_cons_succ, List.setIfInBounds_toArray, List.set_cons_zero, List.set_cons_succ]
      refine wpAnyH_take (i := 2) (oi := _) (v := ?_) rfl (by kernel_rfl) (by kernel_rfl) (by kernel_rfl) (fun _ _ _ h => h) (Or.inl ⟨by rfl, ?_⟩) trivial ?_
      rotate_left
      · (intro w hSw; (try dsimp only at hSw); go_simp <;> with_reducible rfl)
      try simp only [Act.put, List.getElem_toArray, List.getElem_cons_zero, List.getElem_cons_succ, List.setIfInBounds_toArray, List.set_cons_zero, List.set_cons_succ]
      refine wpAnyH_ready (rs := [1, 3]) (by kernel_rfl) (by simp) (AllReadyH.cons rfl (fun K hK => ?_) (AllReadyH.cons rfl (fun K hK => ?_) AllReadyH.nil))
      · have q8a := HQ.out.2.1.cell (i := 8) rfl
        go_simp
        (try go_wp2_with fail)
        refine hK.out _ _ trivial (fun _ => ?_)
        clear hK K
        try simp only [Act.put, List.getElem_toArray, List.getElem_cons_zero, List.getElem_cons_succ, List.setIfInBounds_toArray, List.set_cons_zero, List.set_cons_succ]
        clear q8a
        refine wpAnyH_ready (rs := [3]) (by kernel_rfl) (by simp) (AllReadyH.cons rfl (fun K hK => ?_) AllReadyH.nil)
        go_simp
        (refine HST1.out.mono ?_; rintro e w4 ⟨rfl, hx, kx⟩)
        (try go_wp2_with fail)
        refine hK.out _ _ trivial (fun _ => ?_)
        clear hK K
        try simp only [Act.put, List.getElem_toArray, List.getElem_cons_zero, List.getElem_cons_succ, List.setIfInBounds_toArray, List.set_cons_zero, List.set_cons_succ]
        have HQ4 := Lib.hid (HQd.out.kx hg hx kx)
        have HO4 := Lib.hid (ownP_kx HOd.out kx)
        have HQA := Lib.hid (HQ4.out.below hg ((Below.refl _ _).alloc (Nat.le_refl _) (.cells #[.int .i64 y.lv, .int .i64 y.hold, .int .i64 y.fade] 44)))
        have HOA := Lib.hid (HO4.out.below ((Below.refl _ _).alloc (Nat.le_refl _) (.cells #[.int .i64 y.lv, .int .i64 y.hold, .int .i64 y.fade] 44)))
        clear hx kx
        refine wpAnyH_ready (rs := [4]) (by kernel_rfl) (by simp) (AllReadyH.cons rfl (fun K hK => ?_) AllReadyH.nil)
        go_simp
        (try go_wp2_with fail)
        refine hK.out _ _ trivial (fun _ => ?_)
        clear hK K
        try simp only [Act.put, List.getElem_toArray, List.getElem_cons_zero, List.getElem_cons_succ, List.setIfInBounds_toArray, List.set_cons_zero, List.set_cons_succ]
        refine wpAnyH_ready (rs := [5]) (by kernel_rfl) (by simp) (AllReadyH.cons rfl (fun K hK => ?_) AllReadyH.nil)
        have hln : acc.length ≤ 10000000 := by have := HLN.out; omega
        have hbz : g + 2 ≤ (w4.alloc (.cells #[.int .i64 y.lv, .int .i64 y.hold, .int .i64 y.fade] 44)).heap.size := by have := HQA.out.2.1.lt; omega
        refine step_ownP rfl _ _ rfl (g + 2) 1 _ acc y ⟨w4.heap.size, 0, none⟩ rfl rfl HOA.out (ownP_new w4 y _) hln hbz ?_
        intro v' w6 hown hgrow
        obtain ⟨ao2, scap2, rfl⟩ := hown.shape
        have HQ6 := Lib.hid (HQA.out.grownP hg HOA.out hgrow)
        have HO6 := Lib.hid hown
        clear hown hgrow hln hbz
        refine hK.out _ _ trivial (fun _ => ?_)
        clear hK K
        try simp only [Act.put, List.getElem_toArray, List.getElem_cons_zero, List.getElem_cons_succ, List.setIfInBounds_toArray, List.set_cons_zero, List.set_cons_succ]
        refine wpAnyH_take (i := 6) (oi := _) (v := ?_) rfl (by kernel_rfl) (by kernel_rfl) (by kernel_rfl) (fun _ _ _ h => h) (Or.inl ⟨by rfl, ?_⟩) trivial ?_
        rotate_left
        · (intro w hSw; (try dsimp only at hSw); go_simp <;> with_reducible rfl)
        try simp only [Act.put, List.getElem_toArray, List.getElem_cons_zero, List.getElem_cons_succ, List.setIfInBounds_toArray, List.set_cons_zero, List.set_cons_succ]
        obtain ⟨_, hE6, _, _⟩ := HQ6.out
        have q8e := hE6.cell (i := 8) rfl
        have y8e := hE6.frozen 8
        have qle := hE6.lt
        clear hE6
        refine wpAnyH_ready (rs := [7]) (by kernel_rfl) (by simp) (AllReadyH.cons rfl (fun K hK => ?_) AllReadyH.nil)
        go_simp
        (try go_wp2_with fail)
        refine hK.out _ _ trivial (fun _ => ?_)
        clear hK K
        try simp only [Act.put, List.getElem_toArray, List.getElem_cons_zero, List.getElem_cons_succ, List.setIfInBounds_toArray, List.set_cons_zero, List.set_cons_succ]
        clear q8e y8e qle
        refine wpAnyH_done (by kernel_rfl) ?_ _
        have e9 : (acc ++ [y]).length = acc.length + 1 := by simp
        have h2 := HO6.out.setLow (b := g + 1) (i := 8) (by omega) (.slice ao2 (acc.length + 1) scap2)
        rw [e9] at h2
        have HV := Lib.hid (show RES = bN nb (tlP ix lo hi cy wd sp bk rl (acc ++ [y]) R') ∧ (∀ x ∈ R', x.size ≤ 5000) ∧ (acc ++ [y]).length + R'.length ≤ 200000 ∧ QS w g R' nb #[.int .i64 ix, .int .i64 lo, .int .i64 hi, .int .i64 cy, .int .i64 wd, .int .i64 sp, .bool bk, .bool rl, .slice ao2 (acc.length + 1) scap2] (w6.setCell ⟨g + 1, 8, none⟩ (.slice ao2 (acc.length + 1) scap2)) ∧ OwnP (g + 2) (w6.setCell ⟨g + 1, 8, none⟩ (.slice ao2 (acc.length + 1) scap2)) (.slice ao2 (acc.length + 1) scap2) (acc ++ [y]) from ⟨HRN.out, HSR'.out, by rw [e9]; have := HLN.out; simp only [List.length_cons] at this; omega, HQ6.out.setE hg 8 _, h2⟩)
        have hn9 : R'.length + 1 = gk := by simpa using hn
        clear e9 h2 hn
        (try go_wp2_with fail)
        go_roundg R'.length
        case measure => omega
        case rel => exact ⟨R', nb, acc ++ [y], _, rfl, HV⟩
      · go_simp
        (refine HST1.out.mono ?_; rintro e w4 ⟨rfl, hx, kx⟩)
        (try go_wp2_with fail)
        refine hK.out _ _ trivial (fun _ => ?_)
        clear hK K
        try simp only [Act.put, List.getElem_toArray, List.getElem_cons_zero, List.getElem_cons_succ, List.setIfInBounds_toArray, List.set_cons_zero, List.set_cons_succ]
        have HQ4 := Lib.hid (HQd.out.kx hg hx kx)
        have HO4 := Lib.hid (ownP_kx HOd.out kx)
        have HQA := Lib.hid (HQ4.out.below hg ((Below.refl _ _).alloc (Nat.le_refl _) (.cells #[.int .i64 y.lv, .int .i64 y.hold, .int .i64 y.fade] 44)))
        have HOA := Lib.hid (HO4.out.below ((Below.refl _ _).alloc (Nat.le_refl _) (.cells #[.int .i64 y.lv, .int .i64 y.hold, .int .i64 y.fade] 44)))
        clear hx kx
        refine wpAnyH_ready (rs := [1, 4]) (by kernel_rfl) (by simp) (AllReadyH.cons rfl (fun K hK => ?_) (AllReadyH.cons rfl (fun K hK => ?_) AllReadyH.nil))
        · have q8b := HQ4.out.2.1.cell (i := 8) rfl
          go_simp
          (try go_wp2_with fail)
          refine hK.out _ _ trivial (fun _ => ?_)
          clear hK K
          try simp only [Act.put, List.getElem_toArray, List.getElem_cons_zero, List.getElem_cons_succ, List.setIfInBounds_toArray, List.set_cons_zero, List.set_cons_succ]
          clear q8b
          refine wpAnyH_ready (rs := [4]) (by kernel_rfl) (by simp) (AllReadyH.cons rfl (fun K hK => ?_) AllReadyH.nil)
          go_simp
          (try go_wp2_with fail)
          refine hK.out _ _ trivial (fun _ => ?_)
          clear hK K
          try simp only [Act.put, List.getElem_toArray, List.getElem_cons_zero, List.getElem_cons_succ, List.setIfInBounds_toArray, List.set_cons_zero, List.set_cons_succ]
          refine wpAnyH_ready (rs := [5]) (by kernel_rfl) (by simp) (AllReadyH.cons rfl (fun K hK => ?_) AllReadyH.nil)
          have hln : acc.length ≤ 10000000 := by have := HLN.out; omega
          have hbz : g + 2 ≤ (w4.alloc (.cells #[.int .i64 y.lv, .int .i64 y.hold, .int .i64 y.fade] 44)).heap.size := by have := HQA.out.2.1.lt; omega
          refine step_ownP rfl _ _ rfl (g + 2) 1 _ acc y ⟨w4.heap.size, 0, none⟩ rfl rfl HOA.out (ownP_new w4 y _) hln hbz ?_
          intro v' w6 hown hgrow
          obtain ⟨ao2, scap2, rfl⟩ := hown.shape
          have HQ6 := Lib.hid (HQA.out.grownP hg HOA.out hgrow)
          have HO6 := Lib.hid hown
          clear hown hgrow hln hbz
          refine hK.out _ _ trivial (fun _ => ?_)
          clear hK K
          try simp only [Act.put, List.getElem_toArray, List.getElem_cons_zero, List.getElem_cons_succ, List.setIfInBounds_toArray, List.set_cons_zero, List.set_cons_succ]
          refine wpAnyH_take (i := 6) (oi := _) (v := ?_) rfl (by kernel_rfl) (by kernel_rfl) (by kernel_rfl) (fun _ _ _ h => h) (Or.inl ⟨by rfl, ?_⟩) trivial ?_
          rotate_left
          · (intro w hSw; (try dsimp only at hSw); go_simp <;> with_reducible rfl)
          try simp only [Act.put, List.getElem_toArray, List.getElem_cons_zero, List.getElem_cons_succ, List.setIfInBounds_toArray, List.set_cons_zero, List.set_cons_succ]
          obtain ⟨_, hE6, _, _⟩ := HQ6.out
          have q8e := hE6.cell (i := 8) rfl
          have y8e := hE6.frozen 8
          have qle := hE6.lt
          clear hE6
          refine wpAnyH_ready (rs := [7]) (by kernel_rfl) (by simp) (AllReadyH.cons rfl (fun K hK => ?_) AllReadyH.nil)
          go_simp
          (try go_wp2_with fail)
          refine hK.out _ _ trivial (fun _ => ?_)
          clear hK K
          try simp only [Act.put, List.getElem_toArray, List.getElem_cons_zero, List.getElem_cons_succ, List.setIfInBounds_toArray, List.set_cons_zero, List.set_cons_succ]
          clear q8e y8e qle
          refine wpAnyH_done (by kernel_rfl) ?_ _
          have e9 : (acc ++ [y]).length = acc.length + 1 := by simp
          have h2 := HO6.out.setLow (b := g + 1) (i := 8) (by omega) (.slice ao2 (acc.length + 1) scap2)
          rw [e9] at h2
          have HV := Lib.hid (show RES = bN nb (tlP ix lo hi cy wd sp bk rl (acc ++ [y]) R') ∧ (∀ x ∈ R', x.size ≤ 5000) ∧ (acc ++ [y]).length + R'.length ≤ 200000 ∧ QS w g R' nb #[.int .i64 ix, .int .i64 lo, .int .i64 hi, .int .i64 cy, .int .i64 wd, .int .i64 sp, .bool bk, .bool rl, .slice ao2 (acc.length + 1) scap2] (w6.setCell ⟨g + 1, 8, none⟩ (.slice ao2 (acc.length + 1) scap2)) ∧ OwnP (g + 2) (w6.setCell ⟨g + 1, 8, none⟩ (.slice ao2 (acc.length + 1) scap2)) (.slice ao2 (acc.length + 1) scap2) (acc ++ [y]) from ⟨HRN.out, HSR'.out, by rw [e9]; have := HLN.out; simp only [List.length_cons] at this; omega, HQ6.out.setE hg 8 _, h2⟩)
          have hn9 : R'.length + 1 = gk := by simpa using hn
          clear e9 h2 hn
          (try go_wp2_with fail)
          go_roundg R'.length
          case measure => omega
          case rel => exact ⟨R', nb, acc ++ [y], _, rfl, HV⟩
        · go_simp
          (try go_wp2_with fail)
          refine hK.out _ _ trivial (fun _ => ?_)
          clear hK K
          try simp only [Act.put, List.getElem_toArray, List.getElem_cons_zero, List.getElem_cons_succ, List.setIfInBounds_toArray, List.set_cons_zero, List.set_cons_succ]
          have q8c := HQA.out.2.1.cell (i := 8) rfl
          refine wpAnyH_ready (rs := [1]) (by kernel_rfl) (by simp) (AllReadyH.cons rfl (fun K hK => ?_) AllReadyH.nil)
          go_simp
          (try go_wp2_with fail)
          refine hK.out _ _ trivial (fun _ => ?_)
          clear hK K
          try simp only [Act.put, List.getElem_toArray, List.getElem_cons_zero, List.getElem_cons_succ, List.setIfInBounds_toArray, List.set_cons_zero, List.set_cons_succ]
          clear q8c
          refine wpAnyH_ready (rs := [5]) (by kernel_rfl) (by simp) (AllReadyH.cons rfl (fun K hK => ?_) AllReadyH.nil)
          have hln : acc.length ≤ 10000000 := by have := HLN.out; omega
          have hbz : g + 2 ≤ (w4.alloc (.cells #[.int .i64 y.lv, .int .i64 y.hold, .int .i64 y.fade] 44)).heap.size := by have := HQA.out.2.1.lt; omega
          refine step_ownP rfl _ _ rfl (g + 2) 1 _ acc y ⟨w4.heap.size, 0, none⟩ rfl rfl HOA.out (ownP_new w4 y _) hln hbz ?_
          intro v' w6 hown hgrow
          obtain ⟨ao2, scap2, rfl⟩ := hown.shape
          have HQ6 := Lib.hid (HQA.out.grownP hg HOA.out hgrow)
          have HO6 := Lib.hid hown
          clear hown hgrow hln hbz
          refine hK.out _ _ trivial (fun _ => ?_)
          clear hK K
          try simp only [Act.put, List.getElem_toArray, List.getElem_cons_zero, List.getElem_cons_succ, List.setIfInBounds_toArray, List.set_cons_zero, List.set_cons_succ]
          refine wpAnyH_take (i := 6) (oi := _) (v := ?_) rfl (by kernel_rfl) (by kernel_rfl) (by kernel_rfl) (fun _ _ _ h => h) (Or.inl ⟨by rfl, ?_⟩) trivial ?_
          rotate_left
          · (intro w hSw; (try dsimp only at hSw); go_simp <;> with_reducible rfl)
          try simp only [Act.put, List.getElem_toArray, List.getElem_cons_zero, List.getElem_cons_succ, List.setIfInBounds_toArray, List.set_cons_zero, List.set_cons_succ]
          obtain ⟨_, hE6, _, _⟩ := HQ6.out
          have q8e := hE6.cell (i := 8) rfl
          have y8e := hE6.frozen 8
          have qle := hE6.lt
          clear hE6
          refine wpAnyH_ready (rs := [7]) (by kernel_rfl) (by simp) (AllReadyH.cons rfl (fun K hK => ?_) AllReadyH.nil)
          go_simp
          (try go_wp2_with fail)
          refine hK.out _ _ trivial (fun _ => ?_)
          clear hK K
          try simp only [Act.put, List.getElem_toArray, List.getElem_cons_zero, List.getElem_cons_succ, List.setIfInBounds_toArray, List.set_cons_zero, List.set_cons_succ]
          clear q8e y8e qle
          refine wpAnyH_done (by kernel_rfl) ?_ _
          have e9 : (acc ++ [y]).length = acc.length + 1 := by simp
          have h2 := HO6.out.setLow (b := g + 1) (i := 8) (by omega) (.slice ao2 (acc.length + 1) scap2)
          rw [e9] at h2
          have HV := Lib.hid (show RES = bN nb (tlP ix lo hi cy wd sp bk rl (acc ++ [y]) R') ∧ (∀ x ∈ R', x.size ≤ 5000) ∧ (acc ++ [y]).length + R'.length ≤ 200000 ∧ QS w g R' nb #[.int .i64 ix, .int .i64 lo, .int .i64 hi, .int .i64 cy, .int .i64 wd, .int .i64 sp, .bool bk, .bool rl, .slice ao2 (acc.length + 1) scap2] (w6.setCell ⟨g + 1, 8, none⟩ (.slice ao2 (acc.length + 1) scap2)) ∧ OwnP (g + 2) (w6.setCell ⟨g + 1, 8, none⟩ (.slice ao2 (acc.length + 1) scap2)) (.slice ao2 (acc.length + 1) scap2) (acc ++ [y]) from ⟨HRN.out, HSR'.out, by rw [e9]; have := HLN.out; simp only [List.length_cons] at this; omega, HQ6.out.setE hg 8 _, h2⟩)
          have hn9 : R'.length + 1 = gk := by simpa using hn
          clear e9 h2 hn
          (try go_wp2_with fail)
          go_roundg R'.length
          case measure => omega
          case rel => exact ⟨R', nb, acc ++ [y], _, rfl, HV⟩
    | false =>
      have HEND := Lib.hid (show RES = if (b || !R.isEmpty) = true then none else some ⟨ix, lo, hi, cy, wd, sp, bk, rl, acc⟩ from by
        rw [HRR.out]
        cases b with
        | true => rfl
        | false =>
          rcases R with _ | ⟨x, R'⟩
          · exact tlP_end ix lo hi cy wd sp bk rl acc
          · exact tlP_more ix lo hi cy wd sp bk rl acc x R' (by intro h; simp [h] at hcn))
      clear hcn HRR
      go_upto_region 17 with fail
      go_cut [87] (fun s wx => s = .bool (b || !R.isEmpty) ∧ wr = wx)
      case first =>
        obtain ⟨⟨o, cap, hB1, hrow, hc1, hc2⟩, _, _, _⟩ := HQ.out
        have t1 := hB1.cell (i := 1) rfl
        have tl := hB1.lt
        rcases R with _ | ⟨x, R'⟩
        · have t0 : wr.cell? ⟨g, 0, none⟩ = some (Value.slice (some ⟨w.heap.size + 1, o, none⟩) 0 cap) := hB1.cell (i := 0) rfl
          clear hB1 hrow hc1 hc2
          cases b
          all_goals
            go_wp2_with fail
            go_meet
            exact ⟨rfl, rfl⟩
        · have t0 : wr.cell? ⟨g, 0, none⟩ = some (Value.slice (some ⟨w.heap.size + 1, o, none⟩) (R'.length + 1) cap) := hB1.cell (i := 0) rfl
          have h5 : (0 : Int) < (R'.length : Int) + 1 := by omega
          clear hB1 hrow hc1 hc2
          cases b
          all_goals
            go_wp2_with fail
            go_meet
            exact ⟨rfl, rfl⟩
      case rest =>
      obtain ⟨rfl, rfl⟩ := hcut
      cases hbb : (b || !R.isEmpty) with
      | true =>
        have HN := Lib.hid (HN0.out (by rw [HEND.out, if_pos hbb]))
        have HRR := Lib.hid HN.out.1
        have HRF := Lib.hid HN.out.2
        obtain ⟨hX, hE, hZ, hB⟩ := HQ.out
        clear hX HEND HN0 HN HS0 hbb
        go_upto_region 18 with fail
        go_cut [3] (fun s wx => s = .int .i64 (9) ∧ Hid (TBox wx w.heap.size 24 #[.int .i64 0, .int .i64 0, .int .i64 0, .int .i64 0, .int .i64 0, .int .i64 0, .bool false, .bool false, .slice none 0 0]) ∧ Hid (Below w.heap.size w wx))
        case first =>
          have q0 := hE.cell (i := 0) rfl
          have q1 := hE.cell (i := 1) rfl
          have q2 := hE.cell (i := 2) rfl
          have q3 := hE.cell (i := 3) rfl
          have q4 := hE.cell (i := 4) rfl
          have q5 := hE.cell (i := 5) rfl
          have q6 := hE.cell (i := 6) rfl
          have q7 := hE.cell (i := 7) rfl
          have q8 := hE.cell (i := 8) rfl
          have ql := hE.lt
          have r0 := hZ.cell (i := 0) rfl
          have r1 := hZ.cell (i := 1) rfl
          have r2 := hZ.cell (i := 2) rfl
          have r3 := hZ.cell (i := 3) rfl
          have r4 := hZ.cell (i := 4) rfl
          have r5 := hZ.cell (i := 5) rfl
          have r6 := hZ.cell (i := 6) rfl
          have r7 := hZ.cell (i := 7) rfl
          have r8 := hZ.cell (i := 8) rfl
          have z0 := hZ.frozen 0
          have z1 := hZ.frozen 1
          have z2 := hZ.frozen 2
          have z3 := hZ.frozen 3
          have z4 := hZ.frozen 4
          have z5 := hZ.frozen 5
          have z6 := hZ.frozen 6
          have z7 := hZ.frozen 7
          have z8 := hZ.frozen 8
          have rl2 := hZ.lt
          have HXB := Lib.hid (set9_box (w := wr) hZ (u0 := .int .i64 0) (u1 := .int .i64 0) (u2 := .int .i64 0) (u3 := .int .i64 0) (u4 := .int .i64 0) (u5 := .int .i64 0) (u6 := .bool false) (u7 := .bool false) (u8 := .slice none 0 0))
          have HB9 := Lib.hid (set9_below (W := wr) hB (show w.heap.size ≤ w.heap.size from Nat.le_refl _) (.int .i64 0) (.int .i64 0) (.int .i64 0) (.int .i64 0) (.int .i64 0) (.int .i64 0) (.bool false) (.bool false) (.slice none 0 0))
          clear hZ hB hE
          go_wp2_with fail
          go_meet
          exact ⟨rfl, HXB, HB9⟩
        case rest =>
          rename_i KK hKK
          obtain ⟨rfl, HQ, HB9⟩ := hcut
          have x0 := HQ.out.cell (i := 0) rfl
          have x1 := HQ.out.cell (i := 1) rfl
          have x2 := HQ.out.cell (i := 2) rfl
          have x3 := HQ.out.cell (i := 3) rfl
          have x4 := HQ.out.cell (i := 4) rfl
          have x5 := HQ.out.cell (i := 5) rfl
          have x6 := HQ.out.cell (i := 6) rfl
          have x7 := HQ.out.cell (i := 7) rfl
          have x8 := HQ.out.cell (i := 8) rfl
          refine hKK _ _ (wp_ret ?_)
          exact bodyPost_ret (v := .tuple #[.agg #[.int .i64 0, .int .i64 0, .int .i64 0, .int .i64 0, .int .i64 0, .int .i64 0, .bool false, .bool false, .slice none 0 0], .int .i64 (9)]) (by simp [results, Tryz.results5, go_sem, x0, x1, x2, x3, x4, x5, x6, x7, x8]) rfl (HPZ.out 9 _ HRR.out HRF.out HB9.out)
      | false =>
        have HE0 := Lib.hid (HS0.out _ (by rw [HEND.out, if_neg (by rw [hbb]; simp)]))
        have hle : acc.length ≤ maxLen := by have := HLN.out; unfold maxLen; omega
        have HST := Lib.hid (HO.out.stS hle)
        have HFR := Lib.hid (HO.out.fresh.more (show w.heap.size + 1 ≤ g + 2 by omega))
        have CK := Lib.hid (fun W (hb : Below wr.heap.size wr W) => refCheck_any ix lo hi cy wd sp bk rl ao scap acc W (stsAt_below (stsAt_of HST.out).2.2 hb) hle)
        have HRR0 := Lib.hid (show rdR s = if chkF ix lo hi cy wd sp acc = 0 then ⟨ix, lo, hi, cy, wd, sp, bk, rl, acc⟩ else zEff from HE0.out.1)
        have HRF0 := Lib.hid (show rdE s = chkF ix lo hi cy wd sp acc from HE0.out.2)
        generalize chkF ix lo hi cy wd sp acc = ck at *
        clear HE0 HEND HN0 HS0 hbb
        obtain ⟨hX, hE, hZ, hB⟩ := HQ.out
        have q0 := hE.cell (i := 0) rfl
        have q1 := hE.cell (i := 1) rfl
        have q2 := hE.cell (i := 2) rfl
        have q3 := hE.cell (i := 3) rfl
        have q4 := hE.cell (i := 4) rfl
        have q5 := hE.cell (i := 5) rfl
        have q6 := hE.cell (i := 6) rfl
        have q7 := hE.cell (i := 7) rfl
        have q8 := hE.cell (i := 8) rfl
        have ql := hE.lt
        clear hX hE hZ hB
        go_wp2_with fail
        refine (CK.out _ (Below.refl _ _)).mono ?_
        rintro e w5 ⟨rfl, hb5⟩
        have HQ5 := Lib.hid (HQ.out.below hg hb5)
        have HB5 := Lib.hid hb5
        have HLT5 := Lib.hid hb5.size
        clear hb5 HQ CK q0 q1 q2 q3 q4 q5 q6 q7 q8 ql HO
        obtain ⟨hX, hE, hZ, hB⟩ := HQ5.out
        by_cases hck : ck = 0
        · have HRR := Lib.hid (show rdR s = ⟨ix, lo, hi, cy, wd, sp, bk, rl, acc⟩ by rw [HRR0.out, if_pos hck])
          have HRF := Lib.hid (show rdE s = 0 by rw [HRF0.out, hck])
          have hcb : (ck != 0) = false := by simp [hck]
          clear HRR0 HRF0 hX
          go_upto_region 22 with fail
          go_cut [3] (fun s wx => s = .int .i64 (0) ∧ Hid (TBox wx w.heap.size 24 #[.int .i64 ix, .int .i64 lo, .int .i64 hi, .int .i64 cy, .int .i64 wd, .int .i64 sp, .bool bk, .bool rl, .slice ao acc.length scap]) ∧ Hid (Below w.heap.size w wx) ∧ Hid (StS wx.heap.size wx (.slice ao acc.length scap) acc))
          case first =>
            have q0 := hE.cell (i := 0) rfl
            have q1 := hE.cell (i := 1) rfl
            have q2 := hE.cell (i := 2) rfl
            have q3 := hE.cell (i := 3) rfl
            have q4 := hE.cell (i := 4) rfl
            have q5 := hE.cell (i := 5) rfl
            have q6 := hE.cell (i := 6) rfl
            have q7 := hE.cell (i := 7) rfl
            have q8 := hE.cell (i := 8) rfl
            have ql := hE.lt
            have r0 := hZ.cell (i := 0) rfl
            have r1 := hZ.cell (i := 1) rfl
            have r2 := hZ.cell (i := 2) rfl
            have r3 := hZ.cell (i := 3) rfl
            have r4 := hZ.cell (i := 4) rfl
            have r5 := hZ.cell (i := 5) rfl
            have r6 := hZ.cell (i := 6) rfl
            have r7 := hZ.cell (i := 7) rfl
            have r8 := hZ.cell (i := 8) rfl
            have z0 := hZ.frozen 0
            have z1 := hZ.frozen 1
            have z2 := hZ.frozen 2
            have z3 := hZ.frozen 3
            have z4 := hZ.frozen 4
            have z5 := hZ.frozen 5
            have z6 := hZ.frozen 6
            have z7 := hZ.frozen 7
            have z8 := hZ.frozen 8
            have rl2 := hZ.lt
            have HXB := Lib.hid (set9_box (w := w5) hZ (u0 := .int .i64 ix) (u1 := .int .i64 lo) (u2 := .int .i64 hi) (u3 := .int .i64 cy) (u4 := .int .i64 wd) (u5 := .int .i64 sp) (u6 := .bool bk) (u7 := .bool rl) (u8 := .slice ao acc.length scap))
            have HB9 := Lib.hid (set9_below (W := w5) hB (show w.heap.size ≤ w.heap.size from Nat.le_refl _) (.int .i64 ix) (.int .i64 lo) (.int .i64 hi) (.int .i64 cy) (.int .i64 wd) (.int .i64 sp) (.bool bk) (.bool rl) (.slice ao acc.length scap))
            have HS9 := Lib.hid ((HST.out.below HB5.out).ret9 HFR.out (show w.heap.size < w.heap.size + 1 by omega) HLT5.out (.int .i64 ix) (.int .i64 lo) (.int .i64 hi) (.int .i64 cy) (.int .i64 wd) (.int .i64 sp) (.bool bk) (.bool rl) (.slice ao acc.length scap))
            clear HST HB5 HFR HLT5
            clear hZ hB hE
            go_wp2_with fail
            go_meet
            exact ⟨rfl, HXB, HB9, HS9⟩
          case rest =>
            rename_i KK hKK
            obtain ⟨rfl, HQ, HB9, HS9⟩ := hcut
            have x0 := HQ.out.cell (i := 0) rfl
            have x1 := HQ.out.cell (i := 1) rfl
            have x2 := HQ.out.cell (i := 2) rfl
            have x3 := HQ.out.cell (i := 3) rfl
            have x4 := HQ.out.cell (i := 4) rfl
            have x5 := HQ.out.cell (i := 5) rfl
            have x6 := HQ.out.cell (i := 6) rfl
            have x7 := HQ.out.cell (i := 7) rfl
            have x8 := HQ.out.cell (i := 8) rfl
            refine hKK _ _ (wp_ret ?_)
            exact bodyPost_ret (v := .tuple #[.agg #[.int .i64 ix, .int .i64 lo, .int .i64 hi, .int .i64 cy, .int .i64 wd, .int .i64 sp, .bool bk, .bool rl, .slice ao acc.length scap], .int .i64 (0)]) (by simp [results, Tryz.results5, go_sem, x0, x1, x2, x3, x4, x5, x6, x7, x8]) rfl (HPE.out ⟨ix, lo, hi, cy, wd, sp, bk, rl, acc⟩ _ _ HRR.out HRF.out HS9.out HB9.out)
        · have HRR := Lib.hid (show rdR s = zEff by rw [HRR0.out, if_neg hck])
          have HRF := Lib.hid (show rdE s = ck from HRF0.out)
          have hcb : (ck != 0) = true := by simp [hck]
          clear HRR0 HRF0 hX HST HB5 HFR HLT5
          go_upto_region 21 with fail
          go_cut [3] (fun s wx => s = .int .i64 (ck) ∧ Hid (TBox wx w.heap.size 24 #[.int .i64 0, .int .i64 0, .int .i64 0, .int .i64 0, .int .i64 0, .int .i64 0, .bool false, .bool false, .slice none 0 0]) ∧ Hid (Below w.heap.size w wx))
          case first =>
            have q0 := hE.cell (i := 0) rfl
            have q1 := hE.cell (i := 1) rfl
            have q2 := hE.cell (i := 2) rfl
            have q3 := hE.cell (i := 3) rfl
            have q4 := hE.cell (i := 4) rfl
            have q5 := hE.cell (i := 5) rfl
            have q6 := hE.cell (i := 6) rfl
            have q7 := hE.cell (i := 7) rfl
            have q8 := hE.cell (i := 8) rfl
            have ql := hE.lt
            have r0 := hZ.cell (i := 0) rfl
            have r1 := hZ.cell (i := 1) rfl
            have r2 := hZ.cell (i := 2) rfl
            have r3 := hZ.cell (i := 3) rfl
            have r4 := hZ.cell (i := 4) rfl
            have r5 := hZ.cell (i := 5) rfl
            have r6 := hZ.cell (i := 6) rfl
            have r7 := hZ.cell (i := 7) rfl
            have r8 := hZ.cell (i := 8) rfl
            have z0 := hZ.frozen 0
            have z1 := hZ.frozen 1
            have z2 := hZ.frozen 2
            have z3 := hZ.frozen 3
            have z4 := hZ.frozen 4
            have z5 := hZ.frozen 5
            have z6 := hZ.frozen 6
            have z7 := hZ.frozen 7
            have z8 := hZ.frozen 8
            have rl2 := hZ.lt
            have HXB := Lib.hid (set9_box (w := w5) hZ (u0 := .int .i64 0) (u1 := .int .i64 0) (u2 := .int .i64 0) (u3 := .int .i64 0) (u4 := .int .i64 0) (u5 := .int .i64 0) (u6 := .bool false) (u7 := .bool false) (u8 := .slice none 0 0))
            have HB9 := Lib.hid (set9_below (W := w5) hB (show w.heap.size ≤ w.heap.size from Nat.le_refl _) (.int .i64 0) (.int .i64 0) (.int .i64 0) (.int .i64 0) (.int .i64 0) (.int .i64 0) (.bool false) (.bool false) (.slice none 0 0))
            clear hZ hB hE
            go_wp2_with fail
            go_meet
            exact ⟨rfl, HXB, HB9⟩
          case rest =>
            rename_i KK hKK
            obtain ⟨rfl, HQ, HB9⟩ := hcut
            have x0 := HQ.out.cell (i := 0) rfl
            have x1 := HQ.out.cell (i := 1) rfl
            have x2 := HQ.out.cell (i := 2) rfl
            have x3 := HQ.out.cell (i := 3) rfl
            have x4 := HQ.out.cell (i := 4) rfl
            have x5 := HQ.out.cell (i := 5) rfl
            have x6 := HQ.out.cell (i := 6) rfl
            have x7 := HQ.out.cell (i := 7) rfl
            have x8 := HQ.out.cell (i := 8) rfl
            refine hKK _ _ (wp_ret ?_)
            exact bodyPost_ret (v := .tuple #[.agg #[.int .i64 0, .int .i64 0, .int .i64 0, .int .i64 0, .int .i64 0, .int .i64 0, .bool false, .bool false, .slice none 0 0], .int .i64 (ck)]) (by simp [results, Tryz.results5, go_sem, x0, x1, x2, x3, x4, x5, x6, x7, x8]) rfl (HPZ.out ck _ HRR.out HRF.out HB9.out)
end Go.Proofs.YtfidbdegggalmaaGreatDoor
