/- The readers of bytes, of the program and of its reference: take, number, one, two. -/
import Derived.Test.YtfipkljefmfhmaaBytesLib
import Derived.Test.YtfipkljefmfhmaaWirePlain
import Derived.OwnWalk
namespace Go.Proofs.Ytfipkljefmfhmaa
open Go.RowKit

/-- a reader at block rb in the state s; the bytes lie below block B -/
def Rd (T B : Nat) (w : World) (rb : Nat) (s : RSt) : Prop := ∃ v, w.heap[rb]? = some (.cells #[v, .bool s.2] T (0, 0)) ∧ ByS B w v s.1
def TakeP (T B : Nat) (k : Bool) (rb : Nat) (s : RSt) (n : Nat) (w : World) (e : Ending) (w' : World) : Prop :=
  ∃ v, e = .returned v ∧ ByS w'.heap.size w' v (tkB k n s) ∧ Rd T B w' rb (tkS k n s) ∧ w.grownBy w' (some rb)

theorem block_lt {w : World} {g : Nat} {o : Obj} (h : w.heap[g]? = some o) : g < w.heap.size := by
  rcases Nat.lt_or_ge g w.heap.size with hlt | hge
  · exact hlt
  · rw [Array.getElem?_eq_none hge] at h; cases h
theorem set_block {w : World} {g i : Nat} {cs : Array Value} {t : TypeId} (u : Value) (h : w.heap[g]? = some (.cells cs t (0, 0))) : (w.setCell ⟨g, i, none⟩ u).heap[g]? = some (.cells (cs.setIfInBounds i u) t (0, 0)) := by
  simp [World.setCell, Array.getElem?_modify, h]
theorem grown_set (w : World) (g i : Nat) (u : Value) : w.grownBy (w.setCell ⟨g, i, none⟩ u) (some g) :=
  ⟨rfl, rfl, rfl, by simp [World.setCell], fun k _ hk => Below.heap_setCell _ _ _ _ (by rintro rfl; exact hk rfl)⟩
theorem grown_trans {w w1 w2 : World} {r : Option Nat} (h : w.grownBy w1 r) (k : w1.grownBy w2 r) : w.grownBy w2 r :=
  ⟨k.os.trans h.os, k.tape.trans h.tape, k.output.trans h.output, Nat.le_trans h.size k.size, fun j hj hn => (k.block j (Nat.lt_of_lt_of_le hj h.size) hn).trans (h.block j hj hn)⟩
theorem grown_more {w w1 : World} (r : Option Nat) (h : w.grownBy w1 none) : w.grownBy w1 r := ⟨h.os, h.tape, h.output, h.size, fun j hj _ => h.block j hj (by simp)⟩
theorem ByS.grown {B rb : Nat} {w w' : World} {v : Value} {l : List UInt8} (h : ByS B w v l) (hg : w.grownBy w' (some rb)) (hB : B ≤ rb) (hs : B ≤ w.heap.size) : ByS B w' v l :=
  h.keep fun b o hb => World.cell?_of_block (hg.block b (by omega) (by intro e; injection e with e; omega))
/-- zeros, made anew -/
theorem zeros_made (n : Nat) : (madeCells (Value.int .u8 0).cells (n * 1)).toList = bcells (List.replicate n 0) := by
  rw [Nat.mul_one, show (Value.int .u8 0).cells = #[.int .u8 0] from rfl, toList_madeCells_one]
  simp [bcells]

set_option maxHeartbeats 2000000 in
theorem take_any (B rb : Nat) (s : RSt) (n : Nat) (w : World) (hB : B ≤ rb) (hn : n ≤ 65535) (h : Rd 169 B w rb s) :
    Calls Try.prog 71 #[.pointer (some ⟨rb, 0, none⟩), .int .i64 n] w (TakeP 169 B true rb s n w) := by
  obtain ⟨l, sh⟩ := s
  obtain ⟨v, hb, hl⟩ := h
  dsimp only at hb hl
  have hlt := block_lt hb
  obtain ⟨ao, cap, rfl, k1, k2, hx⟩ := id hl
  clear hx
  have c0 : w.cell? ⟨rb, 0, none⟩ = some (.slice ao l.length cap) := by rw [cell_of_row w rb 0 _ _ (0, 0) hb]; rfl
  have c1 : w.cell? ⟨rb, 1, none⟩ = some (.bool sh) := by rw [cell_of_row w rb 1 _ _ (0, 0) hb]; rfl
  have f0 : w.frozen? ⟨rb, 0, none⟩ = false := frozen_of_row w rb 0 _ _ hb
  have f1 : w.frozen? ⟨rb, 1, none⟩ = false := frozen_of_row w rb 1 _ _ hb
  have HH := Lib.hid hb
  by_cases hle : n ≤ l.length
  · have d : decide ((l.length : Int) < (n : Int)) = false := by simp; omega
    have HF := Lib.hid (hl.front hle)
    have HK := Lib.hid (hl.back hle)
    have HB := Lib.hid (show tkB true n (l, sh) = l.take n from if_pos hle)
    have HS := Lib.hid (show tkS true n (l, sh) = (l.drop n, sh) from if_pos hle)
    have hcn : n ≤ cap := by omega
    clear hl hb
    by_cases hc : cap = n
    · have HK' := Lib.hid (show ByS B w (.slice ao 0 0) (l.drop n) by
        have := HK.out; rwa [if_pos hc, show l.length - n = 0 by omega, show cap - n = 0 by omega] at this)
      have hL : l.length = n := by omega
      rw [hL] at c0 HH d hle k1
      subst hc
      clear HK hL
      generalize l.length = L at *
      go_enter Try.func71, Try.ntmps71
      go_wp2
      go_ret
      have hg := grown_set w rb 0 (.slice ao 0 0)
      refine ⟨_, rfl, ?_, ?_, hg⟩
      · rw [HB.out]
        exact (HF.out.grown hg hB (by omega)).more (by simp; omega)
      · rw [HS.out]
        exact ⟨_, set_block _ HH.out, HK'.out.grown hg hB (by omega)⟩
    · have HK' := Lib.hid (show ByS B w (.slice (ao.map (·.add n)) (l.length - n) (cap - n)) (l.drop n) by have := HK.out; rwa [if_neg hc] at this)
      have hc' : n < cap := by omega
      clear HK hc
      generalize l.length = L at *
      go_enter Try.func71, Try.ntmps71
      go_wp2
      go_ret
      have hg := grown_set w rb 0 (.slice (ao.map (·.add n)) (L - n) (cap - n))
      refine ⟨_, rfl, ?_, ?_, hg⟩
      · rw [HB.out]
        exact (HF.out.grown hg hB (by omega)).more (by simp; omega)
      · rw [HS.out]
        exact ⟨_, set_block _ HH.out, HK'.out.grown hg hB (by omega)⟩
  · have d : decide ((l.length : Int) < (n : Int)) = true := by simp; omega
    have HB := Lib.hid (show tkB true n (l, sh) = List.replicate n 0 from if_neg hle)
    have HS := Lib.hid (show tkS true n (l, sh) = (if true = true then l else [], true) from if_neg hle)
    have HL := Lib.hid hl
    have hlt2 : l.length < n := by omega
    clear hl hb hle
    generalize l.length = L at *
    obtain ⟨i0, hi, hz0, hz1, hz2⟩ := info_parts byte_info
    have Hi := Lib.hid hi
    have Hz0 := Lib.hid hz0
    have Hz1 := Lib.hid hz1
    have Hz2 := Lib.hid (show i0.bytes * n ≤ 281474976710656 by rw [hz2]; omega)
    clear hi hz0 hz1 hz2
    go_enter Try.func71, Try.ntmps71
    go_wp2_with (at_make; refine wpList_make_full _ rfl _ _ 22 rfl w.heap.size 5 i0 (.int .u8 0) 1 Try.underlying22 Hi.out Hz0.out Hz1.out _ _ _ _ n rfl rfl rfl rfl Hz2.out (by unfold maxLen; omega) (by simp) ?_; intro w1 hown hgrow)
    go_ret
    have hg := grown_trans (grown_set w rb 1 (.bool true)) (grown_more (some rb) hgrow)
    refine ⟨.slice (some ⟨w.heap.size, 0, none⟩) n n, rfl, ?_, ?_, hg⟩
    · rw [HB.out]
      simp only [zeros_made, World.size_setCell] at hown
      exact ByS.of_own hown
    · rw [HS.out]
      exact ⟨_, (hgrow.block rb (by simpa using hlt) (by simp)).trans (set_block _ HH.out), HL.out.grown hg hB (by omega)⟩

set_option maxHeartbeats 2000000 in
theorem rtake_any (B rb : Nat) (s : RSt) (n : Nat) (w : World) (hB : B ≤ rb) (hn : n ≤ 65535) (h : Rd 108 B w rb s) :
    Calls Try.prog 77 #[.pointer (some ⟨rb, 0, none⟩), .int .i64 n] w (TakeP 108 B false rb s n w) := by
  obtain ⟨l, sh⟩ := s
  obtain ⟨v, hb, hl⟩ := h
  dsimp only at hb hl
  have hlt := block_lt hb
  obtain ⟨ao, cap, rfl, k1, k2, hx⟩ := id hl
  clear hx
  have c0 : w.cell? ⟨rb, 0, none⟩ = some (.slice ao l.length cap) := by rw [cell_of_row w rb 0 _ _ (0, 0) hb]; rfl
  have c1 : w.cell? ⟨rb, 1, none⟩ = some (.bool sh) := by rw [cell_of_row w rb 1 _ _ (0, 0) hb]; rfl
  have f0 : w.frozen? ⟨rb, 0, none⟩ = false := frozen_of_row w rb 0 _ _ hb
  have f1 : w.frozen? ⟨rb, 1, none⟩ = false := frozen_of_row w rb 1 _ _ hb
  have HH := Lib.hid hb
  by_cases hle : n ≤ l.length
  · have d : decide ((l.length : Int) < (n : Int)) = false := by simp; omega
    have HF := Lib.hid (hl.front hle)
    have HK := Lib.hid (hl.back hle)
    have HB := Lib.hid (show tkB false n (l, sh) = l.take n from if_pos hle)
    have HS := Lib.hid (show tkS false n (l, sh) = (l.drop n, sh) from if_pos hle)
    have hcn : n ≤ cap := by omega
    clear hl hb
    by_cases hc : cap = n
    · have HK' := Lib.hid (show ByS B w (.slice ao 0 0) (l.drop n) by
        have := HK.out; rwa [if_pos hc, show l.length - n = 0 by omega, show cap - n = 0 by omega] at this)
      have hL : l.length = n := by omega
      rw [hL] at c0 HH d hle k1
      subst hc
      clear HK hL
      generalize l.length = L at *
      go_enter Try.func77, Try.ntmps77
      go_wp2
      go_ret
      have hg := grown_set w rb 0 (.slice ao 0 0)
      refine ⟨_, rfl, ?_, ?_, hg⟩
      · rw [HB.out]
        exact (HF.out.grown hg hB (by omega)).more (by simp; omega)
      · rw [HS.out]
        exact ⟨_, set_block _ HH.out, HK'.out.grown hg hB (by omega)⟩
    · have HK' := Lib.hid (show ByS B w (.slice (ao.map (·.add n)) (l.length - n) (cap - n)) (l.drop n) by have := HK.out; rwa [if_neg hc] at this)
      have hc' : n < cap := by omega
      clear HK hc
      generalize l.length = L at *
      go_enter Try.func77, Try.ntmps77
      go_wp2
      go_ret
      have hg := grown_set w rb 0 (.slice (ao.map (·.add n)) (L - n) (cap - n))
      refine ⟨_, rfl, ?_, ?_, hg⟩
      · rw [HB.out]
        exact (HF.out.grown hg hB (by omega)).more (by simp; omega)
      · rw [HS.out]
        exact ⟨_, set_block _ HH.out, HK'.out.grown hg hB (by omega)⟩
  · have d : decide ((l.length : Int) < (n : Int)) = true := by simp; omega
    have HB := Lib.hid (show tkB false n (l, sh) = List.replicate n 0 from if_neg hle)
    have HS := Lib.hid (show tkS false n (l, sh) = (if false = true then l else [], true) from if_neg hle)
    have HL := Lib.hid hl
    have hlt2 : l.length < n := by omega
    clear hl hb hle
    generalize l.length = L at *
    obtain ⟨i0, hi, hz0, hz1, hz2⟩ := info_parts byte_info
    have Hi := Lib.hid hi
    have Hz0 := Lib.hid hz0
    have Hz1 := Lib.hid hz1
    have Hz2 := Lib.hid (show i0.bytes * n ≤ 281474976710656 by rw [hz2]; omega)
    clear hi hz0 hz1 hz2
    go_enter Try.func77, Try.ntmps77
    go_wp2_with (at_make; refine wpList_make_full _ rfl _ _ 22 rfl w.heap.size 5 i0 (.int .u8 0) 1 Try.underlying22 Hi.out Hz0.out Hz1.out _ _ _ _ n rfl rfl rfl rfl Hz2.out (by unfold maxLen; omega) (by simp) ?_; intro w1 hown hgrow)
    go_ret
    have hg := grown_trans (grown_trans (grown_set w rb 1 (.bool true)) (grown_set _ rb 0 (.slice none 0 0))) (grown_more (some rb) hgrow)
    refine ⟨.slice (some ⟨w.heap.size, 0, none⟩) n n, rfl, ?_, ?_, hg⟩
    · rw [HB.out]
      simp only [zeros_made, World.size_setCell] at hown
      exact ByS.of_own hown
    · rw [HS.out]
      exact ⟨_, (hgrow.block rb (by simpa using hlt) (by simp)).trans (set_block _ (set_block _ HH.out)), none, 0, rfl, Nat.le_refl _, by omega, fun h => absurd rfl h⟩
end Go.Proofs.Ytfipkljefmfhmaa
