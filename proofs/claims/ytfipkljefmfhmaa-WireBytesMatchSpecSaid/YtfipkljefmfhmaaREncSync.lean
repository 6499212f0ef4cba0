/- The contract of EncodeSync of the reference. -/
import Derived.Test.YtfipkljefmfhmaaConcat
namespace Go.Proofs.Ytfipkljefmfhmaa
open Go.RowKit
set_option linter.unusedVariables false
set_option linter.unusedSimpArgs false

/-- a new row of bytes -/
theorem lit_bytes (w : World) (x : List UInt8) (cs : Array Value) (fz : Nat × Nat) (n : Nat) (b : Nat) (hb : b = w.heap.size) (hc : cs.toList = bcells x) (hn : x.length = n) (h9 : n ≤ 100000) :
    ByS (w.heap.size + 1) (w.alloc (.cells cs 5 fz)) (.slice (some ⟨b, 0, none⟩) n n) x := by
  subst hb hn
  refine ⟨_, x.length, rfl, Nat.le_refl _, by omega, fun _ => ⟨w.heap.size, 0, rfl, by omega, fun i hi => ?_⟩⟩
  rw [cell_of_row _ w.heap.size (0 + i) _ _ _ (heap_alloc_new w _), Nat.zero_add, ← Array.getElem?_toList, hc]
  simp [bcells, List.getElem?_eq_getElem hi]
theorem ByS.alloc {B B' : Nat} {w : World} {v : Value} {l : List UInt8} (h : ByS B w v l) (hB : B ≤ w.heap.size) (o : Obj) (hB' : B ≤ B') : ByS B' (w.alloc o) v l :=
  (h.below ((Below.refl _ w).alloc hB o)).more hB'
theorem b2_toList (n : Nat) (h : n ≤ 65535) : (#[.int .u8 ((n : Int) / 256), .int .u8 ((n : Int) % 256)] : Array Value).toList = bcells (b2 n) := by
  rw [b2_cells n h]; simp

set_option maxHeartbeats 2000000 in
set_option maxRecDepth 100000 in
theorem rtwo_any (n : Nat) (w : World) (hn : n ≤ 65535) :
    Calls Try.prog 111 #[.int .i64 n] w fun e w' => e = .returned (.slice (some ⟨w.heap.size, 0, none⟩) 2 2) ∧ w.alloc (.cells #[.int .u8 ((n : Int) / 256), .int .u8 ((n : Int) % 256)] 5) = w' := by
  have h1 : (n : Int) / 256 ≤ 255 := by omega
  go_enter Try.func111, Try.ntmps111
  go_wp2
  go_ret
  exact ⟨rfl, rfl⟩

theorem parts4 {B : Nat} {w : World} {g : Nat} {v0 v1 v2 v3 : Value} {l0 l1 l2 l3 : List UInt8} (hg : g = w.heap.size) (T : Nat) (hB : B ≤ w.heap.size) (h0 : ByS B w v0 l0) (h1 : ByS B w v1 l1) (h2 : ByS B w v2 l2) (h3 : ByS B w v3 l3) :
    PartsB B (w.alloc (.cells #[v0, v1, v2, v3] T)) g [l0, l1, l2, l3] := by
  subst hg
  refine ⟨by simp, fun i hi => ?_⟩
  have hc : ∀ i, (w.alloc (.cells #[v0, v1, v2, v3] T)).cell? ⟨w.heap.size, i, none⟩ = #[v0, v1, v2, v3][i]? := fun i => cell_of_row _ _ i _ _ _ (heap_alloc_new w _)
  match i, hi with
  | 0, _ => exact ⟨v0, hc 0, h0.alloc hB _ (Nat.le_refl _)⟩
  | 1, _ => exact ⟨v1, hc 1, h1.alloc hB _ (Nat.le_refl _)⟩
  | 2, _ => exact ⟨v2, hc 2, h2.alloc hB _ (Nat.le_refl _)⟩
  | 3, _ => exact ⟨v3, hc 3, h3.alloc hB _ (Nat.le_refl _)⟩

def REncP (l : List UInt8) (w : World) (e : Ending) (w' : World) : Prop := ∃ v, e = .returned v ∧ ByS w'.heap.size w' v l ∧ Below w.heap.size w w'

set_option maxHeartbeats 2000000 in
set_option maxRecDepth 100000 in
theorem rencodeSync_any (m k : Nat) (w : World) (hm : m ≤ 65535) (hk : k ≤ 65535) :
    Calls Try.prog 58 #[.int .i64 m, .int .i64 k] w (REncP (encS m k) w) := by
  have kc := fun (w : World) (C : Array Value) (n c : Nat) => Lib.run_convert_bytes_const (P := Try.prog) w 22 5 C n c Try.underlying22 Try.underlying5
  go_enter Try.func58, Try.ntmps58
  go_wp2_with (first
    | (go_at_call 111; (with_reducible refine (rtwo_any m _ hm).mono ?_); rintro e w' ⟨rfl, rfl⟩)
    | (go_at_call 111; (with_reducible refine (rtwo_any k _ hk).mono ?_); rintro e w' ⟨rfl, rfl⟩))
  refine (concat_any (w.heap.size + 1 + 1 + 1 + 1) _ 4 [headB, [2], b2 m, b2 k] _ rfl ?hB ?hl (by omega) ?hp).mono ?_
  case hB => simp
  case hl => simp [headB, b2]
  case hp =>
    refine parts4 (by simp) _ (by simp) ?_ ?_ ?_ ?_
    · exact (((lit_bytes w headB _ (4, 5) 4 _ rfl rfl rfl (by omega)).alloc (by simp) _ (Nat.le_refl _)).alloc (by simp) _ (Nat.le_refl _)).alloc (by simp) _ (by omega)
    · exact ((lit_bytes _ [2] _ (0, 0) 1 _ (by simp) rfl rfl (by omega)).alloc (by simp) _ (Nat.le_refl _)).alloc (by simp) _ (by simp)
    · exact (lit_bytes _ (b2 m) _ (0, 0) 2 _ (by simp) (b2_toList m hm) rfl (by omega)).alloc (by simp) _ (by simp)
    · exact (lit_bytes _ (b2 k) _ (0, 0) 2 _ (by simp) (b2_toList k hk) rfl (by omega)).more (by simp)
  rintro e w1 ⟨v1, rfl, ho, hb⟩
  have hX : [headB, [2], b2 m, b2 k].flatten = headB ++ [2] ++ b2 m ++ b2 k := by simp
  rw [hX] at ho
  have hB1 : Below w.heap.size w w1 := (((((Below.refl _ w).alloc (by simp) _).alloc (by simp) _).alloc (by simp; omega) _).alloc (by simp; omega) _ |>.alloc (by simp; omega) _).trans (hb.mono (by simp; omega))
  have ho1 : w1.ownsRow w.heap.size 5 1 v1 (headB ++ [2] ++ b2 m ++ b2 k).length (bcells (headB ++ [2] ++ b2 m ++ b2 k)) := own_less ho (by simp; omega)
  have hlen : (headB ++ [2] ++ b2 m ++ b2 k).length = 9 := by simp [headB, b2]
  have HE := Lib.hid (show encS m k = (headB ++ [2] ++ b2 m ++ b2 k) ++ b2 (crc (headB ++ [2] ++ b2 m ++ b2 k)) from rfl)
  have hci := crc_lt (headB ++ [2] ++ b2 m ++ b2 k)
  have HB1 := Lib.hid hB1
  have hsz := hB1.size
  have HO1 := Lib.hid ho1
  have hl9 : (headB ++ [2] ++ b2 m ++ b2 k).length ≤ 9 := by omega
  clear hX ho hb hB1 ho1 hlen
  generalize headB ++ [2] ++ b2 m ++ b2 k = x at *
  have SM := Lib.hid (refSumV _ x w1 ((ByS.of_own HO1.out).bytesV (Nat.le_refl _)))
  generalize hc0 : crc x = c at *
  clear hc0
  obtain ⟨i0, hi, hz0, hz1, hz2⟩ := info_parts byte_info
  have Hi := Lib.hid hi
  have Hz0 := Lib.hid hz0
  have Hz1 := Lib.hid hz1
  have Hz2 := Lib.hid hz2
  clear hi hz0 hz1 hz2
  go_wp2_with fail
  refine SM.out.mono ?_
  rintro e w2 ⟨rfl, rfl⟩
  go_wp2_with fail
  refine (rtwo_any c _ (by omega)).mono ?_
  rintro e w2 ⟨rfl, rfl⟩
  go_wp2_with (at_builtin; refine wpList_append_own _ rfl _ _ 22 rfl w.heap.size 5 i0 (.int .u8 0) 1 1 Try.underlying22 Hi.out Hz0.out Hz1.out Hz2.out rfl (by omega) v1 x.length (bcells x) rfl (HO1.out.alloc _) ⟨w1.heap.size, 0, none⟩ 2 2 (bcells (b2 c)) rfl (by rw [bcells_len]; rfl) (two_cells w1 c (by omega) _ rfl) (bcells_one _) (by unfold maxLen; omega) (by omega) (by simp; omega) ?_; intro v' w2 hown hgrow _)
  rw [← bcells_append] at hown
  go_ret
  exact ⟨v', rfl, by rw [HE.out]; exact ByS.of_own hown, below_own HB1.out HO1.out (grown_after_alloc hgrow) (Nat.le_refl _) hsz⟩

set_option maxHeartbeats 1000000 in
theorem rEncodeSync_any (s g : Int) (w : World) :
    Calls Try.prog 17 #[.int .i64 s, .int .i64 g] w (EncSP s g w) := by
  by_cases hs : 1 ≤ s ∧ s ≤ 65535
  · by_cases hg : 1 ≤ g ∧ g ≤ 65535
    · have hc : chkS s g = 0 := if_pos ⟨hs, hg⟩
      have HE := Lib.hid (show encSL s g = encS s.toNat g.toNat from if_pos hc)
      have HZ := Lib.hid hc
      have HA := Lib.hid hs
      have HG := Lib.hid hg
      clear hc
      obtain ⟨m, rfl⟩ : ∃ m : Nat, s = m := ⟨s.toNat, by omega⟩
      obtain ⟨k, rfl⟩ : ∃ k : Nat, g = k := ⟨g.toNat, by omega⟩
      rw [Int.toNat_natCast, Int.toNat_natCast] at HE
      have EN := Lib.hid (rencodeSync_any m k w (by omega) (by omega))
      clear hs hg
      go_enter Try.func17, Try.ntmps17
      go_wp2_with (first | (go_at_call 57; (with_reducible refine (rwithin_yes (m : Int) _ _ _ HA.out).mono ?_); rintro e w' ⟨rfl, rfl⟩) | (go_at_call 57; (with_reducible refine (rwithin_yes (k : Int) _ _ _ HG.out).mono ?_); rintro e w' ⟨rfl, rfl⟩))
      refine EN.out.mono ?_
      rintro e w1 ⟨v, rfl, hv, hb⟩
      have HV := Lib.hid hv
      have HB := Lib.hid hb
      clear hv hb EN
      go_wp2
      go_ret2
      exact ⟨v, by rw [HZ.out]; rfl, by rw [HE.out]; exact HV.out, HB.out⟩
    · have hc : chkS s g = 1 := if_neg fun k => hg k.2
      have HE := Lib.hid (show encSL s g = [] from if_neg (by rw [hc]; omega))
      have HZ := Lib.hid hc
      have HA := Lib.hid hs
      have HG := Lib.hid (show g < 1 ∨ 65535 < g by omega)
      clear hs hg hc
      go_enter Try.func17, Try.ntmps17
      go_wp2_with (first | (go_at_call 57; (with_reducible refine (rwithin_yes s _ _ _ HA.out).mono ?_); rintro e w' ⟨rfl, rfl⟩) | (go_at_call 57; (with_reducible refine (rwithin_no g _ _ _ HG.out).mono ?_); rintro e w' ⟨rfl, rfl⟩))
      go_ret2
      exact ⟨_, by rw [HZ.out]; rfl, by rw [HE.out]; exact nil_bytes _ _, Below.refl _ _⟩
  · have hc : chkS s g = 1 := if_neg fun k => hs k.1
    have HE := Lib.hid (show encSL s g = [] from if_neg (by rw [hc]; omega))
    have HZ := Lib.hid hc
    have HA := Lib.hid (show s < 1 ∨ 65535 < s by omega)
    clear hs hc
    go_enter Try.func17, Try.ntmps17
    go_wp2_with (first | (go_at_call 57; (with_reducible refine (rwithin_no s _ _ _ HA.out).mono ?_); rintro e w' ⟨rfl, rfl⟩))
    go_ret2
    exact ⟨_, by rw [HZ.out]; rfl, by rw [HE.out]; exact nil_bytes _ _, Below.refl _ _⟩
end Go.Proofs.Ytfipkljefmfhmaa
