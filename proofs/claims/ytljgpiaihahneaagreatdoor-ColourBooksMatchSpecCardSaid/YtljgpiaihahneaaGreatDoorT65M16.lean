/- colour.Read at any text. (printed by wip/gen/gen_colread.py) -/
import Derived.Test.YtljgpiaihahneaaGreatDoorT65M12
import Derived.Test.YtljgpiaihahneaaGreatDoorT65M13
import Derived.Test.YtljgpiaihahneaaGreatDoorT65M15

namespace Go.Proofs.YtljgpiaihahneaaGreatDoor
open Go.RowKit
set_option linter.unusedVariables false
set_option linter.unusedSimpArgs false

/-- what stands behind the mark of a colour; whether it is there -/
def hsT (s : ByteArray) : ByteArray := ⟨(Lib.trimPrefix s.data.toList [35]).toArray⟩
def hsB (s : ByteArray) : Bool := Lib.hasPrefix s.data.toList [35]
theorem callHs (s : ByteArray) (W : World) : Calls Tryz.prog 40 #[.string s, .string ⟨#[35]⟩] W fun e w' => e = .returned (.tuple #[.string (hsT s), .bool (hsB s)]) ∧ w' = W := Tryz.strings_CutPrefix s ⟨#[35]⟩ W
theorem hsT_le (s : ByteArray) : (hsT s).size ≤ s.size := by
  unfold hsT
  rw [Lib.size_eq, Lib.size_eq]
  simp only [Lib.trimPrefix]
  split
  · simp
  · simp
/-- a colour's text -/
def ColOk (s : ByteArray) : Prop := hsB s = true ∧ ((hsT s).size = 6 ∨ (hsT s).size = 12) ∧ AllHex (hsT s)
instance (s : ByteArray) : Decidable (ColOk s) := by unfold ColOk; infer_instance
/-- its parts -/
def colP (t : ByteArray) (i : Nat) : Nat := if t.size = 6 then hexS (t.extract (i * 2) ((i + 1) * 2)) * 257 else hexS (t.extract (i * 4) ((i + 1) * 4))
theorem hex_cut {t : ByteArray} (h : AllHex t) (a b : Nat) : AllHex (t.extract a b) := by
  intro i hi
  have : (t.extract a b)[i] = t[a + i]'(by simp at hi; omega) := by simp [ByteArray.getElem_extract]
  rw [this]
  exact h _ _
theorem hexS_lt {s : ByteArray} (h : AllHex s) (k : Nat) (hk : s.size = k) : hexS s < 16 ^ k := by
  have hl : s.data.toList.length = s.size := by rw [Array.length_toList]; rfl
  have := hexL_lt s.data.toList k (fun c hc => by
    obtain ⟨i, hi, rfl⟩ := List.mem_iff_getElem.1 hc
    have hi' : i < s.size := by omega
    have := h i hi'
    rwa [show s.data.toList[i] = s[i] by simp; rfl])
  rcases this with h1 | h1
  · rwa [← hk, ← hl, List.take_length, hl, hk] at h1
  · omega

set_option maxHeartbeats 1000000 in
theorem puint (s : ByteArray) (w : World) (h0 : 0 < s.size) (h4 : s.size ≤ 4) (hh : AllHex s) :
    Calls Tryz.prog 42 #[.string s, .int .i64 16, .int .i64 32] w fun e w' => e = .returned (.tuple #[.int .u64 (hexS s), .nilIface]) ∧ Below w.heap.size w w' := by
  have C := Lib.hid (parse16 s w h0 h4 hh)
  clear hh
  go_enter Tryz.func42, Tryz.ntmps42
  go_wp2_with fail
  refine C.out.mono ?_
  rintro e w1 ⟨rfl, hb⟩
  have HB := Lib.hid hb
  clear hb
  go_wp2
  go_ret2
  exact ⟨rfl, HB.out⟩

set_option maxHeartbeats 4000000 in
theorem cread_no (s : ByteArray) (w : World) (hn : s.size ≤ 9223372036854775807) (h : ¬ ColOk s) :
    Calls Tryz.prog 26 #[.string s] w fun e w' => e = .returned (.tuple #[.agg #[.int .i64 0, .int .i64 0, .int .i64 0], .int .i64 9]) ∧ Below w.heap.size w w' := by
  have CP := Lib.hid (fun W => callHs s W)
  have hle := hsT_le s
  have h' := h
  unfold ColOk at h'
  clear h
  generalize hsT s = t at *
  by_cases hB : hsB s = true
  · rw [hB] at CP
    by_cases h6 : t.size = 6 ∨ t.size = 12
    · have hx : ¬ AllHex t := fun hx => h' ⟨hB, h6, hx⟩
      have CT := Lib.hid (fun W => trimH_any t W (by omega) (by omega))
      have HX := Lib.hid hx
      clear h' hx hB
      rcases h6 with h6 | h6
      all_goals
        go_enter Tryz.func26, Tryz.ntmps26
        go_wp2_with fail
        refine (CP.out _).mono ?_
        rintro e w1 ⟨rfl, rfl⟩
        go_wp2_with fail
        refine (CT.out _).mono ?_
        rintro e w1 ⟨⟨u, rfl, hu⟩, hb⟩
        rcases hu with ⟨_, hu⟩ | ⟨hu, _⟩
        · exact absurd hu HX.out
        have hl := bytes_some hu
        have hl2 := bytes_some' hu
        have BX := (TBox.new w #[.int .i64 0, .int .i64 0, .int .i64 0] 31).below hb
        have q0 := BX.cell (i := 0) rfl
        have q1 := BX.cell (i := 1) rfl
        have q2 := BX.cell (i := 2) rfl
        have f0 := BX.frozen 0
        have f1 := BX.frozen 1
        have f2 := BX.frozen 2
        have HB := Lib.hid (bt below1 hb)
        clear hb hu
        go_wp2
        have BX3 := ((BX.set 0 (.int .i64 0)).set 1 (.int .i64 0)).set 2 (.int .i64 0)
        have R0 := BX3.cell (i := 0) rfl
        have R1 := BX3.cell (i := 1) rfl
        have R2 := BX3.cell (i := 2) rfl
        have HB3 : Below w.heap.size w (((w1.setCell ⟨w.heap.size, 0, none⟩ (.int .i64 0)).setCell ⟨w.heap.size, 1, none⟩ (.int .i64 0)).setCell ⟨w.heap.size, 2, none⟩ (.int .i64 0)) := ((HB.out.setCell (Nat.le_refl _) _).setCell (Nat.le_refl _) _).setCell (Nat.le_refl _) _
        generalize ((w1.setCell ⟨w.heap.size, 0, none⟩ (.int .i64 0)).setCell ⟨w.heap.size, 1, none⟩ (.int .i64 0)).setCell ⟨w.heap.size, 2, none⟩ (.int .i64 0) = W3 at *
        exact bodyPost_ret (v := .tuple #[.agg #[.int .i64 0, .int .i64 0, .int .i64 0], .int .i64 9]) (by simp [results, Tryz.results26, go_sem, R0, R1, R2]) rfl ⟨rfl, HB3⟩
    · have h6a : ¬ t.size = 6 := fun e => h6 (.inl e)
      have h6b : ¬ t.size = 12 := fun e => h6 (.inr e)
      clear h' h6
      go_enter Tryz.func26, Tryz.ntmps26
      go_wp2_with fail
      refine (CP.out _).mono ?_
      rintro e w1 ⟨rfl, rfl⟩
      go_wp2
      refine bodyPost_ret (v := .tuple #[.agg #[.int .i64 0, .int .i64 0, .int .i64 0], .int .i64 9]) (by simp [results, Tryz.results26, go_sem, World.cell?_alloc_past]) rfl ⟨rfl, ?_⟩
      exact below1
  · rw [show hsB s = false by simpa using hB] at CP
    clear h' hB
    go_enter Tryz.func26, Tryz.ntmps26
    go_wp2_with fail
    refine (CP.out _).mono ?_
    rintro e w1 ⟨rfl, rfl⟩
    go_wp2
    refine bodyPost_ret (v := .tuple #[.agg #[.int .i64 0, .int .i64 0, .int .i64 0], .int .i64 9]) (by simp [results, Tryz.results26, go_sem, World.cell?_alloc_past]) rfl ⟨rfl, ?_⟩
    exact below1

set_option maxHeartbeats 8000000 in
set_option maxRecDepth 100000 in
theorem cread_2 (s : ByteArray) (w : World) (hB : hsB s = true) (h6 : (hsT s).size = 6) (hx : AllHex (hsT s)) :
    Calls Tryz.prog 26 #[.string s] w fun e w' => e = .returned (.tuple #[.agg #[.int .i64 (colP (hsT s) 0), .int .i64 (colP (hsT s) 1), .int .i64 (colP (hsT s) 2)], .int .i64 0]) ∧ Below w.heap.size w w' := by
  have CP := Lib.hid (fun W => callHs s W)
  rw [hB] at CP
  clear hB
  generalize hsT s = t at *
  have z0 : (t.extract 0 2).size = 2 := by simp; omega
  have P0 := Lib.hid (fun W => puint (t.extract 0 2) W (by omega) (by omega) (hex_cut hx _ _))
  have b0 : hexS (t.extract 0 2) < 256 := hexS_lt (hex_cut hx _ _) 2 z0
  have V0 : colP t 0 = hexS (t.extract 0 2) * 257 := if_pos h6
  rw [V0]
  generalize hexS (t.extract 0 2) = v0 at *
  clear z0 V0
  have z1 : (t.extract 2 4).size = 2 := by simp; omega
  have P1 := Lib.hid (fun W => puint (t.extract 2 4) W (by omega) (by omega) (hex_cut hx _ _))
  have b1 : hexS (t.extract 2 4) < 256 := hexS_lt (hex_cut hx _ _) 2 z1
  have V1 : colP t 1 = hexS (t.extract 2 4) * 257 := if_pos h6
  rw [V1]
  generalize hexS (t.extract 2 4) = v1 at *
  clear z1 V1
  have z2 : (t.extract 4 6).size = 2 := by simp; omega
  have P2 := Lib.hid (fun W => puint (t.extract 4 6) W (by omega) (by omega) (hex_cut hx _ _))
  have b2 : hexS (t.extract 4 6) < 256 := hexS_lt (hex_cut hx _ _) 2 z2
  have V2 : colP t 2 = hexS (t.extract 4 6) * 257 := if_pos h6
  rw [V2]
  generalize hexS (t.extract 4 6) = v2 at *
  clear z2 V2
  have CT := Lib.hid (fun W => trimH_any t W (by omega) (by omega))
  have HX := Lib.hid hx
  clear hx
  go_enter Tryz.func26, Tryz.ntmps26
  go_wp2_with fail
  refine (CP.out _).mono ?_
  rintro e w1 ⟨rfl, rfl⟩
  go_wp2_with fail
  refine (CT.out _).mono ?_
  rintro e w1 ⟨⟨u, rfl, hu⟩, hb⟩
  rcases hu with ⟨rfl, _⟩ | ⟨_, hu⟩
  case inr => exact absurd HX.out hu
  have BX := (TBox.new w #[.int .i64 0, .int .i64 0, .int .i64 0] 31).below hb
  have HB := Lib.hid (bt below1 hb)
  have hlt : w.heap.size < w1.heap.size := BX.lt
  clear hb
  go_wp2_with fail
  refine wp_loop_rounds 4 ?_
  rw [rounds_succ]
  go_wp2_with fail
  refine (P0.out _).mono ?_
  rintro e y0 ⟨rfl, hb2⟩
  have bn : TBox y0 w1.heap.size 71 #[.int .i64 0, .int .i64 0, .int .i64 0] := (TBox.new w1 #[.int .i64 0, .int .i64 0, .int .i64 0] 71).below hb2
  have bx : TBox y0 w.heap.size 31 #[.int .i64 0, .int .i64 0, .int .i64 0] := (BX.alloc _).below hb2
  have hbb : Below w.heap.size w y0 := bt (HB.out.alloc (Nat.le_of_lt hlt) _) hb2
  have q0 := bn.cell (i := 0) rfl
  have f0 := bn.frozen 0
  clear hb2
  go_wp2
  have BN1 : TBox ((y0.setCell ⟨w1.heap.size, 0, none⟩ (.int .i64 v0)).setCell ⟨w1.heap.size, 0, none⟩ (.int .i64 ((v0 : Int) * 257))) w1.heap.size 71 #[.int .i64 ((v0 : Int) * 257), .int .i64 0, .int .i64 0] := ((bn.set 0 (.int .i64 v0)).set 0 (.int .i64 ((v0 : Int) * 257)))
  have BX1 : TBox ((y0.setCell ⟨w1.heap.size, 0, none⟩ (.int .i64 v0)).setCell ⟨w1.heap.size, 0, none⟩ (.int .i64 ((v0 : Int) * 257))) w.heap.size 31 #[.int .i64 0, .int .i64 0, .int .i64 0] := ((bx.setOther (Nat.ne_of_lt hlt) _).setOther (Nat.ne_of_lt hlt) _)
  have HB1 := Lib.hid (show Below w.heap.size w ((y0.setCell ⟨w1.heap.size, 0, none⟩ (.int .i64 v0)).setCell ⟨w1.heap.size, 0, none⟩ (.int .i64 ((v0 : Int) * 257))) from ((hbb.setCell (Nat.le_of_lt hlt) _).setCell (Nat.le_of_lt hlt) _))
  generalize ((y0.setCell ⟨w1.heap.size, 0, none⟩ (.int .i64 v0)).setCell ⟨w1.heap.size, 0, none⟩ (.int .i64 ((v0 : Int) * 257))) = x1 at *
  clear bn bx hbb q0 f0
  rw [rounds_succ]
  go_wp2_with fail
  refine (P1.out _).mono ?_
  rintro e y1 ⟨rfl, hb2⟩
  have bn : TBox y1 w1.heap.size 71 #[.int .i64 ((v0 : Int) * 257), .int .i64 0, .int .i64 0] := (BN1).below hb2
  have bx : TBox y1 w.heap.size 31 #[.int .i64 0, .int .i64 0, .int .i64 0] := BX1.below hb2
  have hbb : Below w.heap.size w y1 := bt HB1.out hb2
  have q0 := bn.cell (i := 1) rfl
  have f0 := bn.frozen 1
  clear hb2
  go_wp2
  have BN2 : TBox ((y1.setCell ⟨w1.heap.size, 1, none⟩ (.int .i64 v1)).setCell ⟨w1.heap.size, 1, none⟩ (.int .i64 ((v1 : Int) * 257))) w1.heap.size 71 #[.int .i64 ((v0 : Int) * 257), .int .i64 ((v1 : Int) * 257), .int .i64 0] := ((bn.set 1 (.int .i64 v1)).set 1 (.int .i64 ((v1 : Int) * 257)))
  have BX2 : TBox ((y1.setCell ⟨w1.heap.size, 1, none⟩ (.int .i64 v1)).setCell ⟨w1.heap.size, 1, none⟩ (.int .i64 ((v1 : Int) * 257))) w.heap.size 31 #[.int .i64 0, .int .i64 0, .int .i64 0] := ((bx.setOther (Nat.ne_of_lt hlt) _).setOther (Nat.ne_of_lt hlt) _)
  have HB2 := Lib.hid (show Below w.heap.size w ((y1.setCell ⟨w1.heap.size, 1, none⟩ (.int .i64 v1)).setCell ⟨w1.heap.size, 1, none⟩ (.int .i64 ((v1 : Int) * 257))) from ((hbb.setCell (Nat.le_of_lt hlt) _).setCell (Nat.le_of_lt hlt) _))
  generalize ((y1.setCell ⟨w1.heap.size, 1, none⟩ (.int .i64 v1)).setCell ⟨w1.heap.size, 1, none⟩ (.int .i64 ((v1 : Int) * 257))) = x2 at *
  clear bn bx hbb q0 f0
  rw [rounds_succ]
  go_wp2_with fail
  refine (P2.out _).mono ?_
  rintro e y2 ⟨rfl, hb2⟩
  have bn : TBox y2 w1.heap.size 71 #[.int .i64 ((v0 : Int) * 257), .int .i64 ((v1 : Int) * 257), .int .i64 0] := (BN2).below hb2
  have bx : TBox y2 w.heap.size 31 #[.int .i64 0, .int .i64 0, .int .i64 0] := BX2.below hb2
  have hbb : Below w.heap.size w y2 := bt HB2.out hb2
  have q0 := bn.cell (i := 2) rfl
  have f0 := bn.frozen 2
  clear hb2
  go_wp2
  have BN3 : TBox ((y2.setCell ⟨w1.heap.size, 2, none⟩ (.int .i64 v2)).setCell ⟨w1.heap.size, 2, none⟩ (.int .i64 ((v2 : Int) * 257))) w1.heap.size 71 #[.int .i64 ((v0 : Int) * 257), .int .i64 ((v1 : Int) * 257), .int .i64 ((v2 : Int) * 257)] := ((bn.set 2 (.int .i64 v2)).set 2 (.int .i64 ((v2 : Int) * 257)))
  have BX3 : TBox ((y2.setCell ⟨w1.heap.size, 2, none⟩ (.int .i64 v2)).setCell ⟨w1.heap.size, 2, none⟩ (.int .i64 ((v2 : Int) * 257))) w.heap.size 31 #[.int .i64 0, .int .i64 0, .int .i64 0] := ((bx.setOther (Nat.ne_of_lt hlt) _).setOther (Nat.ne_of_lt hlt) _)
  have HB3 := Lib.hid (show Below w.heap.size w ((y2.setCell ⟨w1.heap.size, 2, none⟩ (.int .i64 v2)).setCell ⟨w1.heap.size, 2, none⟩ (.int .i64 ((v2 : Int) * 257))) from ((hbb.setCell (Nat.le_of_lt hlt) _).setCell (Nat.le_of_lt hlt) _))
  generalize ((y2.setCell ⟨w1.heap.size, 2, none⟩ (.int .i64 v2)).setCell ⟨w1.heap.size, 2, none⟩ (.int .i64 ((v2 : Int) * 257))) = x3 at *
  clear bn bx hbb q0 f0
  rw [rounds_succ]
  have n0 := BN3.cell (i := 0) rfl
  have n1 := BN3.cell (i := 1) rfl
  have n2 := BN3.cell (i := 2) rfl
  have q0 := BX3.cell (i := 0) rfl
  have q1 := BX3.cell (i := 1) rfl
  have q2 := BX3.cell (i := 2) rfl
  have f0 := BX3.frozen 0
  have f1 := BX3.frozen 1
  have f2 := BX3.frozen 2
  go_wp2
  have BZ : TBox (((x3.setCell ⟨w.heap.size, 0, none⟩ (.int .i64 ((v0 : Int) * 257))).setCell ⟨w.heap.size, 1, none⟩ (.int .i64 ((v1 : Int) * 257))).setCell ⟨w.heap.size, 2, none⟩ (.int .i64 ((v2 : Int) * 257))) w.heap.size 31 #[.int .i64 ((v0 : Int) * 257), .int .i64 ((v1 : Int) * 257), .int .i64 ((v2 : Int) * 257)] := ((BX3.set 0 (.int .i64 ((v0 : Int) * 257))).set 1 (.int .i64 ((v1 : Int) * 257))).set 2 (.int .i64 ((v2 : Int) * 257))
  have HZ : Below w.heap.size w (((x3.setCell ⟨w.heap.size, 0, none⟩ (.int .i64 ((v0 : Int) * 257))).setCell ⟨w.heap.size, 1, none⟩ (.int .i64 ((v1 : Int) * 257))).setCell ⟨w.heap.size, 2, none⟩ (.int .i64 ((v2 : Int) * 257))) := ((HB3.out.setCell (Nat.le_refl _) _).setCell (Nat.le_refl _) _).setCell (Nat.le_refl _) _
  have R0 := BZ.cell (i := 0) rfl
  have R1 := BZ.cell (i := 1) rfl
  have R2 := BZ.cell (i := 2) rfl
  generalize (((x3.setCell ⟨w.heap.size, 0, none⟩ (.int .i64 ((v0 : Int) * 257))).setCell ⟨w.heap.size, 1, none⟩ (.int .i64 ((v1 : Int) * 257))).setCell ⟨w.heap.size, 2, none⟩ (.int .i64 ((v2 : Int) * 257))) = W3 at *
  exact bodyPost_ret (v := .tuple #[.agg #[.int .i64 ((v0 : Int) * 257), .int .i64 ((v1 : Int) * 257), .int .i64 ((v2 : Int) * 257)], .int .i64 0]) (by simp [results, Tryz.results26, go_sem, R0, R1, R2]) rfl ⟨rfl, HZ⟩

set_option maxHeartbeats 8000000 in
set_option maxRecDepth 100000 in
theorem cread_4 (s : ByteArray) (w : World) (hB : hsB s = true) (h6 : (hsT s).size = 12) (hx : AllHex (hsT s)) :
    Calls Tryz.prog 26 #[.string s] w fun e w' => e = .returned (.tuple #[.agg #[.int .i64 (colP (hsT s) 0), .int .i64 (colP (hsT s) 1), .int .i64 (colP (hsT s) 2)], .int .i64 0]) ∧ Below w.heap.size w w' := by
  have CP := Lib.hid (fun W => callHs s W)
  rw [hB] at CP
  clear hB
  generalize hsT s = t at *
  have z0 : (t.extract 0 4).size = 4 := by simp; omega
  have P0 := Lib.hid (fun W => puint (t.extract 0 4) W (by omega) (by omega) (hex_cut hx _ _))
  have b0 : hexS (t.extract 0 4) < 65536 := hexS_lt (hex_cut hx _ _) 4 z0
  have V0 : colP t 0 = hexS (t.extract 0 4) := if_neg (by omega)
  rw [V0]
  generalize hexS (t.extract 0 4) = v0 at *
  clear z0 V0
  have z1 : (t.extract 4 8).size = 4 := by simp; omega
  have P1 := Lib.hid (fun W => puint (t.extract 4 8) W (by omega) (by omega) (hex_cut hx _ _))
  have b1 : hexS (t.extract 4 8) < 65536 := hexS_lt (hex_cut hx _ _) 4 z1
  have V1 : colP t 1 = hexS (t.extract 4 8) := if_neg (by omega)
  rw [V1]
  generalize hexS (t.extract 4 8) = v1 at *
  clear z1 V1
  have z2 : (t.extract 8 12).size = 4 := by simp; omega
  have P2 := Lib.hid (fun W => puint (t.extract 8 12) W (by omega) (by omega) (hex_cut hx _ _))
  have b2 : hexS (t.extract 8 12) < 65536 := hexS_lt (hex_cut hx _ _) 4 z2
  have V2 : colP t 2 = hexS (t.extract 8 12) := if_neg (by omega)
  rw [V2]
  generalize hexS (t.extract 8 12) = v2 at *
  clear z2 V2
  have CT := Lib.hid (fun W => trimH_any t W (by omega) (by omega))
  have HX := Lib.hid hx
  clear hx
  go_enter Tryz.func26, Tryz.ntmps26
  go_wp2_with fail
  refine (CP.out _).mono ?_
  rintro e w1 ⟨rfl, rfl⟩
  go_wp2_with fail
  refine (CT.out _).mono ?_
  rintro e w1 ⟨⟨u, rfl, hu⟩, hb⟩
  rcases hu with ⟨rfl, _⟩ | ⟨_, hu⟩
  case inr => exact absurd HX.out hu
  have BX := (TBox.new w #[.int .i64 0, .int .i64 0, .int .i64 0] 31).below hb
  have HB := Lib.hid (bt below1 hb)
  have hlt : w.heap.size < w1.heap.size := BX.lt
  clear hb
  go_wp2_with fail
  refine wp_loop_rounds 4 ?_
  rw [rounds_succ]
  go_wp2_with fail
  refine (P0.out _).mono ?_
  rintro e y0 ⟨rfl, hb2⟩
  have bn : TBox y0 w1.heap.size 71 #[.int .i64 0, .int .i64 0, .int .i64 0] := (TBox.new w1 #[.int .i64 0, .int .i64 0, .int .i64 0] 71).below hb2
  have bx : TBox y0 w.heap.size 31 #[.int .i64 0, .int .i64 0, .int .i64 0] := (BX.alloc _).below hb2
  have hbb : Below w.heap.size w y0 := bt (HB.out.alloc (Nat.le_of_lt hlt) _) hb2
  have q0 := bn.cell (i := 0) rfl
  have f0 := bn.frozen 0
  clear hb2
  go_wp2
  have BN1 : TBox (y0.setCell ⟨w1.heap.size, 0, none⟩ (.int .i64 v0)) w1.heap.size 71 #[.int .i64 v0, .int .i64 0, .int .i64 0] := (bn.set 0 (.int .i64 v0))
  have BX1 : TBox (y0.setCell ⟨w1.heap.size, 0, none⟩ (.int .i64 v0)) w.heap.size 31 #[.int .i64 0, .int .i64 0, .int .i64 0] := (bx.setOther (Nat.ne_of_lt hlt) _)
  have HB1 := Lib.hid (show Below w.heap.size w (y0.setCell ⟨w1.heap.size, 0, none⟩ (.int .i64 v0)) from (hbb.setCell (Nat.le_of_lt hlt) _))
  generalize (y0.setCell ⟨w1.heap.size, 0, none⟩ (.int .i64 v0)) = x1 at *
  clear bn bx hbb q0 f0
  rw [rounds_succ]
  go_wp2_with fail
  refine (P1.out _).mono ?_
  rintro e y1 ⟨rfl, hb2⟩
  have bn : TBox y1 w1.heap.size 71 #[.int .i64 v0, .int .i64 0, .int .i64 0] := (BN1).below hb2
  have bx : TBox y1 w.heap.size 31 #[.int .i64 0, .int .i64 0, .int .i64 0] := BX1.below hb2
  have hbb : Below w.heap.size w y1 := bt HB1.out hb2
  have q0 := bn.cell (i := 1) rfl
  have f0 := bn.frozen 1
  clear hb2
  go_wp2
  have BN2 : TBox (y1.setCell ⟨w1.heap.size, 1, none⟩ (.int .i64 v1)) w1.heap.size 71 #[.int .i64 v0, .int .i64 v1, .int .i64 0] := (bn.set 1 (.int .i64 v1))
  have BX2 : TBox (y1.setCell ⟨w1.heap.size, 1, none⟩ (.int .i64 v1)) w.heap.size 31 #[.int .i64 0, .int .i64 0, .int .i64 0] := (bx.setOther (Nat.ne_of_lt hlt) _)
  have HB2 := Lib.hid (show Below w.heap.size w (y1.setCell ⟨w1.heap.size, 1, none⟩ (.int .i64 v1)) from (hbb.setCell (Nat.le_of_lt hlt) _))
  generalize (y1.setCell ⟨w1.heap.size, 1, none⟩ (.int .i64 v1)) = x2 at *
  clear bn bx hbb q0 f0
  rw [rounds_succ]
  go_wp2_with fail
  refine (P2.out _).mono ?_
  rintro e y2 ⟨rfl, hb2⟩
  have bn : TBox y2 w1.heap.size 71 #[.int .i64 v0, .int .i64 v1, .int .i64 0] := (BN2).below hb2
  have bx : TBox y2 w.heap.size 31 #[.int .i64 0, .int .i64 0, .int .i64 0] := BX2.below hb2
  have hbb : Below w.heap.size w y2 := bt HB2.out hb2
  have q0 := bn.cell (i := 2) rfl
  have f0 := bn.frozen 2
  clear hb2
  go_wp2
  have BN3 : TBox (y2.setCell ⟨w1.heap.size, 2, none⟩ (.int .i64 v2)) w1.heap.size 71 #[.int .i64 v0, .int .i64 v1, .int .i64 v2] := (bn.set 2 (.int .i64 v2))
  have BX3 : TBox (y2.setCell ⟨w1.heap.size, 2, none⟩ (.int .i64 v2)) w.heap.size 31 #[.int .i64 0, .int .i64 0, .int .i64 0] := (bx.setOther (Nat.ne_of_lt hlt) _)
  have HB3 := Lib.hid (show Below w.heap.size w (y2.setCell ⟨w1.heap.size, 2, none⟩ (.int .i64 v2)) from (hbb.setCell (Nat.le_of_lt hlt) _))
  generalize (y2.setCell ⟨w1.heap.size, 2, none⟩ (.int .i64 v2)) = x3 at *
  clear bn bx hbb q0 f0
  rw [rounds_succ]
  have n0 := BN3.cell (i := 0) rfl
  have n1 := BN3.cell (i := 1) rfl
  have n2 := BN3.cell (i := 2) rfl
  have q0 := BX3.cell (i := 0) rfl
  have q1 := BX3.cell (i := 1) rfl
  have q2 := BX3.cell (i := 2) rfl
  have f0 := BX3.frozen 0
  have f1 := BX3.frozen 1
  have f2 := BX3.frozen 2
  go_wp2
  have BZ : TBox (((x3.setCell ⟨w.heap.size, 0, none⟩ (.int .i64 v0)).setCell ⟨w.heap.size, 1, none⟩ (.int .i64 v1)).setCell ⟨w.heap.size, 2, none⟩ (.int .i64 v2)) w.heap.size 31 #[.int .i64 v0, .int .i64 v1, .int .i64 v2] := ((BX3.set 0 (.int .i64 v0)).set 1 (.int .i64 v1)).set 2 (.int .i64 v2)
  have HZ : Below w.heap.size w (((x3.setCell ⟨w.heap.size, 0, none⟩ (.int .i64 v0)).setCell ⟨w.heap.size, 1, none⟩ (.int .i64 v1)).setCell ⟨w.heap.size, 2, none⟩ (.int .i64 v2)) := ((HB3.out.setCell (Nat.le_refl _) _).setCell (Nat.le_refl _) _).setCell (Nat.le_refl _) _
  have R0 := BZ.cell (i := 0) rfl
  have R1 := BZ.cell (i := 1) rfl
  have R2 := BZ.cell (i := 2) rfl
  generalize (((x3.setCell ⟨w.heap.size, 0, none⟩ (.int .i64 v0)).setCell ⟨w.heap.size, 1, none⟩ (.int .i64 v1)).setCell ⟨w.heap.size, 2, none⟩ (.int .i64 v2)) = W3 at *
  exact bodyPost_ret (v := .tuple #[.agg #[.int .i64 v0, .int .i64 v1, .int .i64 v2], .int .i64 0]) (by simp [results, Tryz.results26, go_sem, R0, R1, R2]) rfl ⟨rfl, HZ⟩

/-- what colour.Read gives -/
def colRd (s : ByteArray) : Value := if ColOk s then .agg #[.int .i64 (colP (hsT s) 0), .int .i64 (colP (hsT s) 1), .int .i64 (colP (hsT s) 2)] else .agg #[.int .i64 0, .int .i64 0, .int .i64 0]
def colRf (s : ByteArray) : Int := if ColOk s then 0 else 9
theorem cread_any (s : ByteArray) (w : World) (hn : s.size ≤ 9223372036854775807) :
    Calls Tryz.prog 26 #[.string s] w fun e w' => e = .returned (.tuple #[colRd s, .int .i64 (colRf s)]) ∧ Below w.heap.size w w' := by
  unfold colRd colRf
  by_cases h : ColOk s
  · rw [if_pos h, if_pos h]
    obtain ⟨hB, h6, hx⟩ := h
    rcases h6 with h6 | h6
    · exact cread_2 s w hB h6 hx
    · exact cread_4 s w hB h6 hx
  · rw [if_neg h, if_neg h]
    exact cread_no s w hn h
end Go.Proofs.YtljgpiaihahneaaGreatDoor
