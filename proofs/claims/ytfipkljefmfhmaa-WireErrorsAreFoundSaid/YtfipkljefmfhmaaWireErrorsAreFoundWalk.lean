/- The walk of cycloramalaw9.WireErrorsAreFound: for any packet, group, place and byte it returns true. -/
import Derived.Test.YtfipkljefmfhmaaBackP
import Derived.Test.YtfipkljefmfhmaaErrPlain
import Derived.Test.YtfipkljefmfhmaaSClone
namespace Go.Proofs.Ytfipkljefmfhmaa
open Go.RowKit
set_option linter.unusedVariables false
set_option linter.unusedSimpArgs false

/-- one of the two rows of bytes -/
def PartE (W : World) (g k : Nat) : Prop := ∃ ao cap l, W.cell? ⟨g, k, none⟩ = some (.slice ao l.length cap) ∧ ByS W.heap.size W (.slice ao l.length cap) l ∧ l.length ≤ 600 ∧ (l = [] ∨ ∃ y, l = summed y)
def ErrP (w : World) (e : Ending) (w' : World) : Prop := Below w.heap.size w w' ∧ ∃ f : Int, f ≠ 0 ∧ e = .returned (.tuple #[zpkV, .int .i64 f])
theorem decode_err (B : Nat) (v : Value) (l : List UInt8) (w : World) (hB : B ≤ w.heap.size) (h : ByS B w v l) (hd : decPF true l ≠ 0) : Calls Try.prog 24 #[v] w (ErrP w) := by
  refine (decodeP_any B v l w hB h).mono ?_
  rintro e w' ⟨hb, ⟨hn, he⟩ | ⟨h0, _⟩⟩
  · exact ⟨hb, _, hn, he⟩
  · exact absurd h0 hd
def ErrS (w : World) (e : Ending) (w' : World) : Prop := Below w.heap.size w w' ∧ ∃ a b f : Int, f ≠ 0 ∧ e = .returned (.tuple #[.int .i64 a, .int .i64 b, .int .i64 f])
theorem decodeSync_err (B : Nat) (v : Value) (l : List UInt8) (w : World) (hB : B ≤ w.heap.size) (h : ByS B w v l) (hd : decSF true l ≠ 0) : Calls Try.prog 18 #[v] w (ErrS w) := by
  refine (decodeSync_any B v l w hB h).mono ?_
  rintro e w' ⟨he, hb⟩
  exact ⟨hb, _, _, _, hd, he⟩
theorem tmod_bd (a : Int) (n : Nat) (h : 0 < n) : -(n : Int) < a.tmod n ∧ a.tmod n < n := by
  have h1 := Int.tmod_lt_of_pos a (b := (n : Int)) (by omega)
  have h2 := Int.tmod_lt_of_pos (-a) (b := (n : Int)) (by omega)
  rw [Int.neg_tmod] at h2
  omega
theorem encPL_shape (src pri seq uni syn : Int) (nm : List UInt8) (en : Bool) (m : List UInt8) :
    (encPL src pri seq uni syn nm en m).length ≤ 600 ∧ (encPL src pri seq uni syn nm en m = [] ∨ ∃ y, encPL src pri seq uni syn nm en m = summed y) ∧ (chkP src pri seq uni syn nm en m.length = 0 ↔ 0 < (encPL src pri seq uni syn nm en m).length) := by
  by_cases hc : chkP src pri seq uni syn nm en m.length = 0
  · obtain ⟨-, -, -, -, -, -, g7, g8, -⟩ := chkP_zero hc
    have e : encPL src pri seq uni syn nm en m = encP src.toNat pri.toNat seq.toNat uni.toNat syn.toNat en nm m := if_pos hc
    rw [e]
    have hl := encP_len src.toNat pri.toNat seq.toNat uni.toNat syn.toNat en nm m
    exact ⟨by omega, .inr ⟨_, rfl⟩, fun _ => by omega, fun _ => hc⟩
  · have e : encPL src pri seq uni syn nm en m = [] := if_neg hc
    rw [e]
    exact ⟨by simp, .inl rfl, fun h => absurd h hc, fun h => by simp at h⟩
theorem encSL_shape (s g : Int) : (encSL s g).length ≤ 600 ∧ (encSL s g = [] ∨ ∃ y, encSL s g = summed y) ∧ (chkS s g = 0 ↔ 0 < (encSL s g).length) := by
  by_cases hc : chkS s g = 0
  · have e : encSL s g = encS s.toNat g.toNat := if_pos hc
    have hl : (encS s.toNat g.toNat).length = 11 := by simp [encS, summed, headB, b2]
    rw [e]
    exact ⟨by omega, .inr ⟨_, rfl⟩, fun _ => by omega, fun _ => hc⟩
  · have e : encSL s g = [] := if_neg hc
    rw [e]
    exact ⟨by simp, .inl rfl, fun h => absurd h hc, fun h => by simp at h⟩
theorem own_shape {w : World} {base e n : Nat} {v : Value} {xs : List Value} (h : w.ownsRow base e 1 v n xs) (hn : 0 < n) : ∃ q cap, v = .slice (some ⟨q, 0, none⟩) n cap ∧ base ≤ q ∧ n ≤ cap ∧ cap ≤ 9223372036854775807 := by
  rcases h.2 with ⟨_, h0⟩ | ⟨q, cap, cur, hv, hb, _, h1, h2, _⟩
  · omega
  · exact ⟨q, cap, hv, hb, h1, by unfold maxLen at h2; omega⟩
theorem bcells_get (l : List UInt8) (j : Nat) (h : j < l.length) : (bcells l)[j]? = some (.int .u8 (l[j].toNat : Int)) := by
  simp [bcells, List.getElem?_eq_getElem h]
theorem bcells_set (l : List UInt8) (j : Nat) (c : UInt8) : (bcells l).set j (.int .u8 (c.toNat : Int)) = bcells (l.set j c) := by
  simp [bcells, List.map_set]
end Go.Proofs.Ytfipkljefmfhmaa
namespace Go.Proofs.Ytfipkljefmfhmaa.wireErrorsAreFound
open Go.RowKit
set_option linter.unusedVariables false
set_option linter.unusedSimpArgs false

set_option maxHeartbeats 4000000 in
set_option maxRecDepth 100000 in
theorem walk (a0 : Value) (a1 a2 a3 : Int) (w : World) (w0 : PkA w a0) (w1 : (Lit.int .i64 a1).wf = true) (w2 : (Lit.int .i64 a2).wf = true) (w3 : (Lit.int .u8 a3).wf = true) :
    Calls Try.prog 6 #[a0, .int .i64 a1, .int .i64 a2, .int .u8 a3] w fun e w' => e = .returned (.bool true) ∧ Below w.heap.size w w' := by
  obtain ⟨src, nm, pri, seq, uni, syn, en, sl, m, rfl, hn, hm⟩ := w0
  have hc3 : ∃ c : UInt8, a3 = (c.toNat : Int) := by
    simp [Lit.wf, IntKind.min, IntKind.max, IntKind.signed, IntKind.bits] at w3
    exact ⟨UInt8.ofNat a3.toNat, by rw [UInt8.toNat_ofNat']; omega⟩
  obtain ⟨c, rfl⟩ := hc3
  clear w1 w2 w3
  obtain ⟨so, cap, rfl, c1, c2, hx⟩ := id hm
  clear hx
  have EN := Lib.hid (fun W (h : Below w.heap.size w W) => encodeP_any w.heap.size src pri seq uni syn nm en (.slice so m.length cap) m W h.size hn (hm.below h))
  have ES := Lib.hid (encodeSync_any src a1)
  unfold EncPP at EN
  unfold EncSP at ES
  obtain ⟨x1, x2, x3⟩ := encPL_shape src pri seq uni syn nm.data.toList en m
  obtain ⟨y1, y2, y3⟩ := encSL_shape src a1
  have X2 := Lib.hid x2
  have X3 := Lib.hid x3
  have Y2 := Lib.hid y2
  have Y3 := Lib.hid y3
  clear hn hm x2 x3 y2 y3
  generalize chkP src pri seq uni syn nm.data.toList en m.length = f at *
  generalize encPL src pri seq uni syn nm.data.toList en m = x at *
  generalize chkS src a1 = g at *
  generalize encSL src a1 = y at *
  go_enter Try.func6, Try.ntmps6
  go_wp2_with fail
  refine (EN.out (pkW w src nm pri seq uni syn en (.slice so m.length cap)) ((Below.refl _ w).alloc (Nat.le_refl _) _)).mono ?_
  rintro e w4 ⟨v4, rfl, hv4, hb4⟩
  obtain ⟨⟨k0, -, -, -, -, -, -, -⟩, -⟩ := blk_cells ((hb4.block w.heap.size (by simp)).trans (heap_alloc_new w _))
  have HB4 := Lib.hid (((Below.refl _ w).alloc (Nat.le_refl _) _).trans (hb4.mono (by simp)))
  have HX4 := Lib.hid hv4
  clear hv4 hb4 EN
  go_wp2_with fail
  refine (ES.out _).mono ?_
  rintro e w5 ⟨v5, rfl, hv5, hb5⟩
  have hz4 := HB4.out.size
  have HB5 := Lib.hid (HB4.out.trans (hb5.mono hz4))
  have HX5 := Lib.hid ((HX4.out.below hb5).more hb5.size)
  have HY5 := Lib.hid hv5
  obtain ⟨ao1, p1, rfl, _, _, hxx⟩ := HX5.out
  clear hxx
  obtain ⟨ao2, p2, rfl, _, _, hxx⟩ := hv5
  clear hxx hb5 ES HX4
  have hz5 := HB5.out.size
  have hg5 : (w5.alloc (.cells #[.slice ao1 x.length p1, .slice ao2 y.length p2] 22)).heap.size = w5.heap.size + 1 := by simp
  have cells6 := heap_alloc_new w5 (.cells #[.slice ao1 x.length p1, .slice ao2 y.length p2] 22)
  have P0 : Hid (PartE (w5.alloc (.cells #[.slice ao1 x.length p1, .slice ao2 y.length p2] 22)) w5.heap.size 0) :=
    Lib.hid ⟨ao1, p1, x, cell_of_row _ _ 0 _ _ _ cells6, HX5.out.alloc (Nat.le_refl _) _ (by simp), x1, X2.out⟩
  have P1 : Hid (PartE (w5.alloc (.cells #[.slice ao1 x.length p1, .slice ao2 y.length p2] 22)) w5.heap.size 1) :=
    Lib.hid ⟨ao2, p2, y, cell_of_row _ _ 1 _ _ _ cells6, HY5.out.alloc (Nat.le_refl _) _ (by simp), y1, Y2.out⟩
  have HB6 := Lib.hid (HB5.out.alloc hz5 (.cells #[.slice ao1 x.length p1, .slice ao2 y.length p2] 22))
  clear cells6
  go_wp2
  generalize hW6 : w5.alloc (.cells #[.slice ao1 x.length p1, .slice ao2 y.length p2] 22) = w6 at *
  clear hW6
  have hg6 : w5.heap.size < w6.heap.size := by omega
  clear hg5
  go_loopw [37] (fun i wr => ∃ k : Nat, k ≤ 2 ∧ i = .int .i64 k ∧ Below w6.heap.size w6 wr) (fun i _ => 2 - (intOf i).toNat)
  case atStart => exact ⟨0, by omega, rfl, Below.refl _ _⟩
  case round =>
    rename_i wr
    obtain ⟨k, hk, rfl, hbr⟩ := hrel
    by_cases hlt : k < 2
    · have hp : PartE w6 w5.heap.size k := by
        match k, hlt with
        | 0, _ => exact P0.out
        | 1, _ => exact P1.out
      obtain ⟨ao, cp, l, hcell, hl, hl6, hsh⟩ := hp
      have hcell' := (hbr.cell (p := ⟨w5.heap.size, k, none⟩) (by simp; omega)).trans hcell
      have HBR := Lib.hid hbr
      have HLR := Lib.hid (hl.below hbr)
      have hzr := hbr.size
      clear hbr hcell hl
      rcases hsh with rfl | ⟨z, rfl⟩
      · go_wp2
        go_roundw
        case rel => exact ⟨k + 1, by omega, by go_num, HBR.out⟩
        case measure => simp [intOf]; omega
      · have hlen := summed_len z
        have HS := fun i (hi : i < (summed z).length) (hne : (summed z)[i]? ≠ some c) => Lib.hid (err_found z i c hi hne)
        generalize summed z = l at *
        have hl2 : 2 ≤ l.length := by omega
        clear hlen
        have CL := Lib.hid (sClone_any w6.heap.size (.slice ao l.length cp) l wr hzr (by omega) HLR.out)
        have dl : ((l.length : Int) == 0) = false := by rw [beq_eq_false_iff_ne]; omega
        go_wp2_with fail
        refine CL.out.mono ?_
        rintro e w7 ⟨v7, rfl, ho7, hb7⟩
        have HO7 := Lib.hid ho7
        obtain ⟨q, cp7, rfl, hq, hcq, hcq2⟩ := own_shape ho7 (by omega)
        have HB7 := Lib.hid (HBR.out.trans (hb7.mono hzr))
        have hz7 := hb7.size
        obtain ⟨ht1, ht2⟩ := tmod_bd a2 l.length (by omega)
        clear ho7 hb7 CL HLR HBR
        obtain ⟨j, hj⟩ : ∃ j : Nat, (a2.tmod (l.length : Int) + (l.length : Int)) % (l.length : Int) = (j : Int) := ⟨((a2.tmod (l.length : Int) + (l.length : Int)) % (l.length : Int)).toNat, by have := Int.emod_nonneg (a2.tmod (l.length : Int) + (l.length : Int)) (b := (l.length : Int)) (by omega); omega⟩
        have hjl : j < l.length := by have := Int.emod_lt_of_pos (a2.tmod (l.length : Int) + (l.length : Int)) (b := (l.length : Int)) (by omega); omega
        have hjc := HO7.out.cellAt j (by omega)
        rw [bcells_get l j hjl] at hjc
        have hjf := HO7.out.frozenAt j
        have HJ := HS j hjl
        clear HS
        by_cases hsame : l[j] = c
        · have d : ((l[j].toNat : Int) == (c.toNat : Int)) = true := by rw [hsame]; simp
          clear HJ hsame
          generalize l[j].toNat = b at *
          go_wp2
          go_roundw
          case rel => exact ⟨k + 1, by omega, by go_num, HB7.out⟩
          case measure => simp [intOf]; omega
        · have d : ((l[j].toNat : Int) == (c.toNat : Int)) = false := by
            rw [beq_eq_false_iff_ne]
            intro h
            exact hsame (UInt8.toNat_inj.1 (by omega))
          have HJ2 := HJ (by rw [List.getElem?_eq_getElem hjl]; intro h; exact hsame (Option.some.inj h))
          have HOs := HO7.out.stored j (.int .u8 (c.toNat : Int))
          rw [bcells_set] at HOs
          have HO8 := Lib.hid HOs.1
          have HB8 := Lib.hid (below_own HB7.out HO7.out HOs.2 (by omega) HB7.out.size)
          have hz8 : wr.heap.size ≤ (w7.setCell ⟨q, j, none⟩ (.int .u8 (c.toNat : Int))).heap.size := by simpa using hz7
          have DE := Lib.hid (fun W (h : Below (w7.setCell ⟨q, j, none⟩ (.int .u8 (c.toNat : Int))).heap.size (w7.setCell ⟨q, j, none⟩ (.int .u8 (c.toNat : Int))) W) => decode_err _ (.slice (some ⟨q, 0, none⟩) l.length cp7) (l.set j c) W h.size ((ByS.of_own HO8.out).below h) HJ2.out.1)
          have DS := Lib.hid (fun W (h : Below (w7.setCell ⟨q, j, none⟩ (.int .u8 (c.toNat : Int))).heap.size (w7.setCell ⟨q, j, none⟩ (.int .u8 (c.toNat : Int))) W) => decodeSync_err _ (.slice (some ⟨q, 0, none⟩) l.length cp7) (l.set j c) W h.size ((ByS.of_own HO8.out).below h) HJ2.out.2)
          unfold ErrP at DE
          unfold ErrS at DS
          clear HJ HJ2 hsame HOs
          generalize l[j].toNat = b at *
          go_wp2_with fail
          generalize hW8 : w7.setCell ⟨q, j, none⟩ (.int .u8 (c.toNat : Int)) = w8 at *
          clear hW8
          refine (DE.out _ (Below.refl _ _)).mono ?_
          rintro e w9 ⟨hb9, f9, hf9, rfl⟩
          have d9 : (f9 == 0) = false := by rw [beq_eq_false_iff_ne]; exact hf9
          have HB9 := Lib.hid hb9
          clear hb9 hf9
          go_wp2_with fail
          refine (DS.out _ (HB9.out.alloc HB9.out.size _)).mono ?_
          rintro e w10 ⟨hb10, s10, g10, f10, hf10, rfl⟩
          have d10 : (f10 == 0) = false := by rw [beq_eq_false_iff_ne]; exact hf10
          have HB10 := Lib.hid (HB8.out.trans (((HB9.out.alloc HB9.out.size _).trans (hb10.mono (by have := HB9.out.size; simp; omega))).mono (by have := HB8.out.size; omega)))
          clear hb10 hf10
          go_wp2
          go_roundw
          case rel => exact ⟨k + 1, by omega, by go_num, HB10.out⟩
          case measure => simp [intOf]; omega
    · obtain rfl : k = 2 := by omega
      have HBE := Lib.hid (HB6.out.trans (hbr.mono (HB6.out.size)))
      clear hbr hlt hk
      by_cases hf : f = 0
      · have hx0 := X3.out.1 hf
        subst hf
        have dx : decide ((0 : Int) < (x.length : Int)) = true := by simp; omega
        have dxn : decide (0 < x.length) = true := decide_eq_true (by omega)
        by_cases hg : g = 0
        · have hy0 := Y3.out.1 hg
          subst hg
          have dy : decide ((0 : Int) < (y.length : Int)) = true := by simp; omega
          have dyn : decide (0 < y.length) = true := decide_eq_true (by omega)
          go_wp2
          go_ret
          exact ⟨rfl, HBE.out⟩
        · have hy0 : y.length = 0 := by
            rcases Nat.eq_zero_or_pos y.length with h | h
            · exact h
            · exact absurd (Y3.out.2 h) hg
          have dy : decide ((0 : Int) < (y.length : Int)) = false := decide_eq_false (by omega)
          have dyn : decide (0 < y.length) = false := decide_eq_false (by omega)
          have dg : (g == 0) = false := by rw [beq_eq_false_iff_ne]; exact hg
          clear hg hy0
          go_wp2
          go_ret
          exact ⟨rfl, HBE.out⟩
      · have hx0 : x.length = 0 := by
          rcases Nat.eq_zero_or_pos x.length with h | h
          · exact h
          · exact absurd (X3.out.2 h) hf
        have dx : decide ((0 : Int) < (x.length : Int)) = false := decide_eq_false (by omega)
        have dxn : decide (0 < x.length) = false := decide_eq_false (by omega)
        have df : (f == 0) = false := by rw [beq_eq_false_iff_ne]; exact hf
        clear hf hx0
        by_cases hg : g = 0
        · have hy0 := Y3.out.1 hg
          subst hg
          have dy : decide ((0 : Int) < (y.length : Int)) = true := by simp; omega
          have dyn : decide (0 < y.length) = true := decide_eq_true (by omega)
          go_wp2
          go_ret
          exact ⟨rfl, HBE.out⟩
        · have hy0 : y.length = 0 := by
            rcases Nat.eq_zero_or_pos y.length with h | h
            · exact h
            · exact absurd (Y3.out.2 h) hg
          have dy : decide ((0 : Int) < (y.length : Int)) = false := decide_eq_false (by omega)
          have dyn : decide (0 < y.length) = false := decide_eq_false (by omega)
          have dg : (g == 0) = false := by rw [beq_eq_false_iff_ne]; exact hg
          clear hg hy0
          go_wp2
          go_ret
          exact ⟨rfl, HBE.out⟩
end Go.Proofs.Ytfipkljefmfhmaa.wireErrorsAreFound
