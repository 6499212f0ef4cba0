/- The contract of EncodeSync of the program. -/
import Derived.Test.YtfipkljefmfhmaaTwo
import Derived.ArgAppend
namespace Go.Proofs.Ytfipkljefmfhmaa
open Go.RowKit
set_option linter.unusedVariables false
set_option linter.unusedSimpArgs false

def encSL (s g : Int) : List UInt8 := if chkS s g = 0 then encS s.toNat g.toNat else []
def EncSP (s g : Int) (w : World) (e : Ending) (w' : World) : Prop :=
  ∃ v, e = .returned (.tuple #[v, .int .i64 (chkS s g)]) ∧ ByS w'.heap.size w' v (encSL s g) ∧ Below w.heap.size w w'

theorem chkS_zero {s g : Int} (h : chkS s g = 0) : (1 ≤ s ∧ s ≤ 65535) ∧ (1 ≤ g ∧ g ≤ 65535) := by
  unfold chkS at h
  split at h
  · assumption
  · omega
theorem nil_bytes (B : Nat) (w : World) : ByS B w (.slice none 0 0) [] := ⟨none, 0, rfl, Nat.le_refl _, by omega, fun h => absurd rfl h⟩
theorem own_ge {w : World} {base e size n : Nat} {v : Value} {xs : List Value} (h : w.ownsRow base e size v n xs) : ∀ k, v.ownBlock = some k → base ≤ k := fun k hk => (h.lt k hk).1
theorem below_own {B base e size n : Nat} {w w1 w2 : World} {v : Value} {xs : List Value} (h : Below B w w1) (ho : w1.ownsRow base e size v n xs) (hg : w1.grownBy w2 v.ownBlock) (hB : B ≤ base) (hs : B ≤ w1.heap.size) : Below B w w2 :=
  h.grown hg hs (fun k hk => by have := own_ge ho k hk; omega)

theorem len_b2 (l : List UInt8) (n : Nat) : (l ++ b2 n).length = l.length + 2 := by simp [b2]
theorem own_less {w : World} {base base' e size n : Nat} {v : Value} {xs : List Value} (h : w.ownsRow base e size v n xs) (hb : base' ≤ base) : w.ownsRow base' e size v n xs := by
  refine ⟨h.1, ?_⟩
  rcases h.2 with h | ⟨g, cap, cur, e1, h1, h2⟩
  · exact .inl h
  · exact .inr ⟨g, cap, cur, e1, by omega, h2⟩
theorem head_cells (w : World) (o : Obj) (ao : Addr) (ha : ao = ⟨w.heap.size, 0, none⟩) : ∀ j u, (bcells headB)[j]? = some u → ((w.alloc (.cells #[.int .u8 67, .int .u8 89, .int .u8 67, .int .u8 49] 5 (4, 5))).alloc o).cell? (ao.add j) = some u := by
  intro j u hu
  have hl : j < headB.length := by
    rcases Nat.lt_or_ge j headB.length with h | h
    · exact h
    · rw [List.getElem?_eq_none (by rw [bcells_len]; exact h)] at hu; cases hu
  subst ha
  obtain ⟨ao, cap, e1, _, _, h4⟩ := head_bytes w
  obtain ⟨b, off, e2, hb, hc⟩ := h4 (by unfold headB; simp)
  injection e1 with e1 _ _
  rw [← e1] at e2
  injection e2 with e2
  injection e2 with e3 e4 _
  subst e3 e4
  rw [addr_add, World.cell?_alloc_lt _ _ _ (by simp)]
  exact bcells_at hc j u hu
theorem one_cell (W : World) (x : UInt8) (o : Obj) (ad : Addr) (ho : o = .cells #[.int .u8 (x.toNat : Int)] 5) (ha : ad = ⟨W.heap.size, 0, none⟩) : ∀ j u, (bcells [x])[j]? = some u → (W.alloc o).cell? (ad.add j) = some u := by
  intro j u hu
  rw [ho, ha, addr_add, cell_of_row _ W.heap.size (0 + j) _ _ _ (heap_alloc_new W _)]
  match j, hu with
  | 0, hu => simpa [bcells] using hu
  | j + 1, hu => simp [bcells] at hu

set_option maxHeartbeats 2000000 in
set_option maxRecDepth 100000 in
theorem encodeSync_any (s g : Int) (w : World) :
    Calls Try.prog 16 #[.int .i64 s, .int .i64 g] w (EncSP s g w) := by
  have kc := fun (w : World) (C : Array Value) (n c : Nat) => Lib.run_convert_bytes_const (P := Try.prog) w 22 5 C n c Try.underlying22 Try.underlying5
  by_cases hc : chkS s g = 0
  · obtain ⟨h1, h2⟩ := chkS_zero hc
    have HE := Lib.hid (show encSL s g = encS s.toNat g.toNat from if_pos hc)
    have HC := Lib.hid (checkSync_any s g)
    have HZ := Lib.hid hc
    rw [hc] at HC
    clear hc
    obtain ⟨i0, hi, hz0, hz1, hz2⟩ := info_parts byte_info
    have Hi := Lib.hid hi
    have Hz0 := Lib.hid hz0
    have Hz1 := Lib.hid hz1
    have Hz2 := Lib.hid hz2
    clear hi hz0 hz1 hz2
    obtain ⟨m, rfl⟩ : ∃ m : Nat, s = m := ⟨s.toNat, by omega⟩
    obtain ⟨k, rfl⟩ : ∃ k : Nat, g = k := ⟨g.toNat, by omega⟩
    rw [Int.toNat_natCast, Int.toNat_natCast] at HE
    go_enter Try.func16, Try.ntmps16
    go_wp2_with (first
      | (go_at_call 55; refine (HC.out _).mono ?_; rintro e w' ⟨rfl, rfl⟩)
      | (at_builtin; refine wpList_append_grows _ rfl _ _ 22 rfl 5 i0 (.int .u8 0) 1 1 Try.underlying22 Hi.out Hz0.out Hz1.out Hz2.out rfl (by omega) (some ⟨w.heap.size, 0, none⟩) 4 4 (bcells headB) rfl (by intro h; cases h) rfl (by intro b hb; cases hb; exact head_cells w _ _ rfl) ⟨w.heap.size + 1, 0, none⟩ 1 1 (bcells [2]) rfl rfl (one_cell _ 2 _ _ rfl (by simp)) (bcells_one _) (by omega) (by unfold maxLen; omega) (by omega) ?_; intro v1 w1 hown1 hgrow1))
    have hB1 : Below w.heap.size w w1 := ((((Below.refl _ w).alloc (Nat.le_refl _) _).alloc (by simp) _).grown hgrow1 (by simp; omega) (by intro k hk; cases hk))
    have ho1 : w1.ownsRow w.heap.size 5 1 v1 (headB ++ [2]).length (bcells (headB ++ [2])) := by
      rw [← bcells_append] at hown1
      exact own_less hown1 (by simp; omega)
    have T1 := Lib.hid (two_append w.heap.size v1 (headB ++ [2]) m w1 (by omega) (by simp [headB]) hB1.size ho1)
    have HB1 := Lib.hid hB1
    have HO1 := Lib.hid ho1
    clear hown1 hgrow1 hB1 ho1
    refine T1.out.mono ?_
    rintro e w2 ⟨v2, rfl, ho2, hg2⟩
    have hB2 := below_own HB1.out HO1.out hg2 (Nat.le_refl _) HB1.out.size
    have ho2' : w2.ownsRow w.heap.size 5 1 v2 (headB ++ [2] ++ b2 m).length (bcells (headB ++ [2] ++ b2 m)) := by rw [len_b2]; exact ho2
    have T2 := Lib.hid (two_append w.heap.size v2 (headB ++ [2] ++ b2 m) k w2 (by omega) (by simp [headB, b2]) hB2.size ho2')
    have HB2 := Lib.hid hB2
    have HO2 := Lib.hid ho2'
    clear ho2 hg2 hB2 ho2' T1
    go_wp2_with fail
    refine T2.out.mono ?_
    rintro e w3 ⟨v3, rfl, ho3, hg3⟩
    have hB3 := below_own HB2.out HO2.out hg3 (Nat.le_refl _) HB2.out.size
    have ho3' : w3.ownsRow w.heap.size 5 1 v3 (headB ++ [2] ++ b2 m ++ b2 k).length (bcells (headB ++ [2] ++ b2 m ++ b2 k)) := by rw [len_b2]; exact ho3
    have SM := Lib.hid (sumV _ _ w3 ((ByS.of_own ho3').bytesV (Nat.le_refl _)))
    have hci := crc_lt (headB ++ [2] ++ b2 m ++ b2 k)
    have T3 := Lib.hid (two_append w.heap.size v3 _ (crc (headB ++ [2] ++ b2 m ++ b2 k)) w3 (by omega) (by simp [headB, b2]) hB3.size ho3')
    have HB3 := Lib.hid hB3
    have HO3 := Lib.hid ho3'
    have HX := Lib.hid (show encS m k = (headB ++ [2] ++ b2 m ++ b2 k) ++ b2 (crc (headB ++ [2] ++ b2 m ++ b2 k)) from rfl)
    clear ho3 hg3 hB3 ho3' T2
    generalize hc0 : crc (headB ++ [2] ++ b2 m ++ b2 k) = c at *
    clear hc0
    go_wp2_with fail
    refine SM.out.mono ?_
    rintro e w4 ⟨rfl, rfl⟩
    go_wp2_with fail
    refine T3.out.mono ?_
    rintro e w4 ⟨v4, rfl, ho4, hg4⟩
    have hB4 := below_own HB3.out HO3.out hg4 (Nat.le_refl _) HB3.out.size
    have HB4 := Lib.hid hB4
    have HO4 := Lib.hid ho4
    clear ho4 hg4 hB4 T3
    go_wp2
    go_ret2
    exact ⟨v4, by rw [HZ.out]; rfl, by rw [HE.out, HX.out]; exact ByS.of_own HO4.out, HB4.out⟩
  · have HE := Lib.hid (show encSL s g = [] from if_neg hc)
    have HC := Lib.hid (checkSync_any s g)
    have d : (chkS s g != 0) = true := by rw [bne_iff_ne]; exact hc
    unfold EncSP
    clear hc
    have HG := Lib.hid (rfl : chkS s g = chkS s g)
    generalize chkS s g = f at *
    go_enter Try.func16, Try.ntmps16
    go_wp2_with fail
    refine (HC.out _).mono ?_; rintro e w' ⟨rfl, rfl⟩
    go_wp2
    go_ret2
    exact ⟨_, rfl, by rw [HE.out]; exact nil_bytes _ _, Below.refl _ _⟩
end Go.Proofs.Ytfipkljefmfhmaa
