/- The reference's naturals: what a slice of digits says; the contracts of trim, small. The contracts of small and number. The contract of the reference's plus. -/
import Derived.Test.YtabalicembhjmaaProg
import Derived.Test.YtabalicembhjmaaT33M31
import Derived.WalkKit
import Derived.WalkSpells
import Derived.WalkLawsBesides
import Derived.OwnWalk
import Derived.Laws.AppendOwn
import Derived.Laws.OwnMore
import Derived.Lib.Hide
import Derived.Handy

namespace Go.Proofs.Ytabalicembhjmaa
open Go.RowKit
set_option linter.unusedVariables false
set_option linter.unusedSimpArgs false

/-- a slice of L digits of n, n below the base to the power of L; its cells lie below block B -/
def RowN (B : Nat) (w : World) (v : Value) (n L : Nat) : Prop :=
  ∃ ao cap, v = .slice ao L cap ∧ L ≤ cap ∧ cap ≤ 9223372036854775807 ∧ n < BB ^ L ∧ (0 < L → ∃ b off, ao = some ⟨b, off, none⟩ ∧ b < B ∧ ∀ i, i < L → w.cell? ⟨b, off + i, none⟩ = some (.int .i64 (dg n i : Nat)))
/-- without needless zeros -/
def IsN (B : Nat) (w : World) (v : Value) (n : Nat) : Prop := ∃ L, LenOf n L ∧ RowN B w v n L

theorem RowN.keep {B L n : Nat} {w w' : World} {v : Value} (h : RowN B w v n L) (hk : ∀ b o, b < B → w'.cell? ⟨b, o, none⟩ = w.cell? ⟨b, o, none⟩) : RowN B w' v n L := by
  obtain ⟨ao, cap, e, h1, h2, h3, h4⟩ := h
  refine ⟨ao, cap, e, h1, h2, h3, fun hl => ?_⟩
  obtain ⟨b, off, e2, hb, hc⟩ := h4 hl
  exact ⟨b, off, e2, hb, fun i hi => (hk _ _ hb).trans (hc i hi)⟩
theorem RowN.below {B L n : Nat} {w w' : World} {v : Value} (h : RowN B w v n L) (hb : Below B w w') : RowN B w' v n L := h.keep fun _ _ hp => hb.cell hp
theorem RowN.more {B B' L n : Nat} {w : World} {v : Value} (h : RowN B w v n L) (hB : B ≤ B') : RowN B' w v n L := by
  obtain ⟨ao, cap, e, h1, h2, h3, h4⟩ := h
  refine ⟨ao, cap, e, h1, h2, h3, fun hl => ?_⟩
  obtain ⟨b, off, e2, hb, hc⟩ := h4 hl
  exact ⟨b, off, e2, by omega, hc⟩
theorem IsN.below {B n : Nat} {w w' : World} {v : Value} (h : IsN B w v n) (hb : Below B w w') : IsN B w' v n := by obtain ⟨L, h1, h2⟩ := h; exact ⟨L, h1, h2.below hb⟩
theorem IsN.more {B B' n : Nat} {w : World} {v : Value} (h : IsN B w v n) (hB : B ≤ B') : IsN B' w v n := by obtain ⟨L, h1, h2⟩ := h; exact ⟨L, h1, h2.more hB⟩

/-- the cells of L digits -/
def dcells (n L : Nat) : List Value := (List.range L).map fun i => .int .i64 (dg n i : Nat)
theorem dcells_len (n L : Nat) : (dcells n L).length = L := by simp [dcells]
theorem dcells_succ (n L : Nat) : dcells n (L + 1) = dcells n L ++ [.int .i64 (dg n L : Nat)] := by simp [dcells, List.range_succ]
theorem RowN.of_own {w : World} {base e : Nat} {v : Value} {n L : Nat} (h : w.ownsRow base e 1 v L (dcells n L)) (hn : n < BB ^ L) : RowN w.heap.size w v n L := by
  rcases h.2 with ⟨rfl, rfl⟩ | ⟨g, cap, cur, rfl, hb, hg, h1, h2, h3, h4⟩
  · exact ⟨none, 0, rfl, Nat.le_refl _, by omega, hn, fun h => absurd h (Nat.lt_irrefl _)⟩
  · refine ⟨some ⟨g, 0, none⟩, cap, rfl, by omega, by unfold maxLen at h2; omega, hn, fun _ => ⟨g, 0, rfl, ?_, fun i hi => ?_⟩⟩
    · exact (Array.getElem?_eq_some_iff.1 hg).1
    · have := h.cells (g := g) rfl i (.int .i64 (dg n i : Nat)) (by simp [dcells, hi])
      have e : (⟨g, 0, none⟩ : Addr).add i = ⟨g, 0 + i, none⟩ := by unfold Addr.add; split <;> simp_all
      rw [e] at this
      exact this

theorem int_info : (Try.prog.info? 3).map (fun i => (i.zero, i.size, i.bytes)) = some (some (.int .i64 0), 1, 8) := by kernel_rfl

theorem lenOf_of_top {n k : Nat} (h1 : n < BB ^ k) (h2 : k = 0 ∨ dg n (k - 1) ≠ 0) : LenOf n k := by
  refine ⟨h1, fun hk => ?_⟩
  rcases h2 with h2 | h2
  · omega
  · by_cases hlt : n < BB ^ (k - 1)
    · exact absurd (dg_zero_of_lt hlt) h2
    · omega
theorem lt_of_top {n k : Nat} (h1 : n < BB ^ (k + 1)) (h2 : dg n k = 0) : n < BB ^ k := by
  have := mod_succ n k
  rw [h2, Nat.mul_zero, Nat.add_zero, Nat.mod_eq_of_lt h1] at this
  rw [this]
  exact Nat.mod_lt _ (BBp k)

def TrimP (n : Nat) (ao : Option Addr) (L cap : Nat) (w : World) (e : Ending) (w' : World) : Prop := (∃ k, k ≤ L ∧ e = .returned (.slice ao k cap) ∧ LenOf n k) ∧ w = w'
theorem RowN.front {B n L k : Nat} {w : World} {ao : Option Addr} {cap : Nat} (h : RowN B w (.slice ao L cap) n L) (hk : k ≤ L) (hn : n < BB ^ k) : RowN B w (.slice ao k cap) n k := by
  obtain ⟨ao', cap', e, h1, h2, h3, h4⟩ := h
  injection e with e1 e2 e3
  subst e1 e3
  exact ⟨_, _, rfl, by omega, h2, hn, fun h0 => by
    obtain ⟨b, off, e2, hb, hc⟩ := h4 (by omega)
    exact ⟨b, off, e2, hb, fun i hi => hc i (by omega)⟩⟩

set_option maxHeartbeats 2000000 in
theorem trim_any (B n L cap : Nat) (ao : Option Addr) (w : World) (h : RowN B w (.slice ao L cap) n L) : Calls Try.prog 114 #[.slice ao L cap] w (TrimP n ao L cap w) := by
  obtain ⟨ao', cap', he, c1, c2, hn, hx⟩ := id h
  injection he with he1 he2 he3
  subst he1 he3
  have HX := Lib.hid hx
  have HN := Lib.hid hn
  clear h hx hn
  go_enter Try.func114, Try.ntmps114
  go_wp2
  go_loop [3] (fun c => ∃ k : Nat, k ≤ L ∧ c = .int .i64 k ∧ Hid (n < BB ^ k)) (fun c => (intOf c).toNat)
  case atStart => exact ⟨L, Nat.le_refl _, rfl, HN⟩
  case round =>
    obtain ⟨k, hk, rfl, hnk⟩ := hrel
    by_cases h0 : k = 0
    · subst h0
      go_wp2
      go_ret
      exact ⟨⟨0, Nat.zero_le _, rfl, lenOf_of_top hnk.out (.inl rfl)⟩, rfl⟩
    · obtain ⟨b, off, rfl, hb, hc⟩ := HX.out (by omega)
      obtain ⟨k, rfl⟩ : ∃ j, k = j + 1 := ⟨k - 1, by omega⟩
      have hc0 := hc k (by omega)
      have e1 : ((k + 1 : Nat) : Int) - 1 = (k : Nat) := by omega
      have hcst : 0 < ((k + 1 : Nat) : Int) := by omega
      have HT := Lib.hid (fun h => lt_of_top (k := k) hnk.out h)
      have HU := Lib.hid (fun (h : dg n k ≠ 0) => lenOf_of_top (k := k + 1) hnk.out (.inr h))
      clear hc h0
      generalize dg n k = d at *
      by_cases hd : d = 0
      · subst hd
        go_wp2
        go_round
        case rel => exact ⟨k, by omega, by go_num, Lib.hid (HT.out rfl)⟩
        case measure => simp [intOf]
      · go_wp2
        go_ret
        exact ⟨⟨k + 1, hk, rfl, HU.out hd⟩, rfl⟩

theorem dcells_take {n L k : Nat} (h : k ≤ L) : (dcells n L).take k = dcells n k := by
  unfold dcells
  rw [← List.map_take, List.take_range, Nat.min_eq_left h]
theorem own_front {w : World} {base e : Nat} {ao : Option Addr} {n k cap : Nat} {xs : List Value} (h : w.ownsRow base e 1 (.slice ao n cap) n xs) (hk : k ≤ n) : w.ownsRow base e 1 (.slice ao k cap) k (xs.take k) := by
  have hl := h.1
  rcases h.2 with ⟨h', rfl⟩ | ⟨g, cap', cur, h', hb, hg, h1, h2, h3, h4⟩
  · injection h' with h1 h2 h3
    subst h1 h3
    obtain rfl : k = 0 := by omega
    exact ⟨by simp, .inl ⟨rfl, by simp⟩⟩
  · injection h' with e1 e2 e3
    subst e1 e3
    refine ⟨by simp at hl ⊢; omega, .inr ⟨g, _, cur, rfl, hb, hg, by omega, h2, h3, ?_⟩⟩
    rw [← h4, List.take_take]
    congr 1
    omega
/-- a new number in a row of the call's own -/
def NewO (base n : Nat) (w : World) (e : Ending) (w' : World) : Prop := ∃ v L, e = .returned v ∧ LenOf n L ∧ w'.ownsRow base 3 1 v L (dcells n L) ∧ Below base w w'
def TrimO (base n : Nat) (w : World) (e : Ending) (w' : World) : Prop := (∃ v L, e = .returned v ∧ LenOf n L ∧ w.ownsRow base 3 1 v L (dcells n L)) ∧ w = w'
theorem own_shape1 {w : World} {base : Nat} {e : TypeId} {size : Nat} {v : Value} {n : Nat} {xs : List Value} (h : w.ownsRow base e size v n xs) : ∃ ao cap, v = .slice ao n cap := by
  rcases h.2 with ⟨rfl, rfl⟩ | ⟨g, cap, cur, rfl, _⟩
  · exact ⟨_, _, rfl⟩
  · exact ⟨_, _, rfl⟩
theorem trim_own (base n L : Nat) (v : Value) (w : World) (h : w.ownsRow base 3 1 v L (dcells n L)) (hn : n < BB ^ L) : Calls Try.prog 114 #[v] w (TrimO base n w) := by
  obtain ⟨ao, cap, rfl⟩ := own_shape1 h
  refine (trim_any w.heap.size n L cap ao w (RowN.of_own h hn)).mono ?_
  rintro e w' ⟨⟨k, hk, rfl, hl⟩, rfl⟩
  refine ⟨⟨_, k, rfl, hl, ?_⟩, rfl⟩
  have := own_front h hk
  rwa [dcells_take hk] at this
end Go.Proofs.Ytabalicembhjmaa

namespace Go.Proofs.Ytabalicembhjmaa
open Go.RowKit
set_option linter.unusedVariables false
set_option linter.unusedSimpArgs false

theorem tmod_nat (m d : Nat) : Int.tmod (m : Int) (d : Int) = ((m % d : Nat) : Int) := (Int.ofNat_tmod m d).symm
theorem tdiv_nat (m d : Nat) : Int.tdiv (m : Int) (d : Int) = ((m / d : Nat) : Int) := (Int.ofNat_tdiv m d).symm
/-- a new number -/
def NewN (n : Nat) (w : World) (e : Ending) (w' : World) : Prop := ∃ v, e = .returned v ∧ IsN w'.heap.size w' v n ∧ Below w.heap.size w w'
theorem one_int (w : World) (x : Int) (T : TypeId) (fz : Nat × Nat) (j : Nat) (u : Value) (h : [Value.int .i64 x][j]? = some u) : (w.alloc (.cells #[.int .i64 x] T fz)).cell? ((⟨w.heap.size, 0, none⟩ : Addr).add j) = some u := by
  match j, h with
  | 0, h =>
    simp at h
    subst h
    exact World.cell?_alloc_mark w _ T fz 0
theorem int_one (x : Int) : ∀ u ∈ [Value.int .i64 x], u.oneCell' = true := by
  intro u hu
  simp at hu
  subst hu
  rfl
theorem below_own1 {w wr w2 : World} {v : Value} {e n : Nat} {xs : List Value} {o : Obj} (hb : Below w.heap.size w wr) (ho : wr.ownsRow w.heap.size e 1 v n xs) (hg : (wr.alloc o).grownBy w2 v.ownBlock) (hs : w.heap.size ≤ wr.heap.size) : Below w.heap.size w w2 :=
  (hb.alloc hs o).grown hg (by simp; omega) fun k hk => (ho.lt k hk).1
theorem qN_dg (n k : Nat) : dcells n (k + 1) = dcells n k ++ [.int .i64 ((qN n k % 1000000000 : Nat) : Int)] := dcells_succ n k
theorem BB20 : 9223372036854775807 < BB ^ 20 := by unfold BB; decide
theorem qN_20 {n : Nat} (h : n ≤ 9223372036854775807) : qN n 20 = 0 := Nat.div_eq_of_lt (Nat.lt_of_le_of_lt h BB20)
theorem lenOf_of_div {n k : Nat} (h : qN n k = 0) (hz : k = 0 ∨ qN n (k - 1) ≠ 0) : LenOf n k := by
  refine ⟨qN_lt h, fun hk0 => ?_⟩
  rcases hz with h | h
  · omega
  · by_cases hlt : n < BB ^ (k - 1)
    · exact absurd (Nat.div_eq_of_lt hlt) h
    · omega
theorem small_val {m m2 : Nat} (h : wrap64 ((m : Int) / 1000000000) = (m : Int) / 1000000000) (hv : m / 1000000000 = m2) :
    Value.int .i64 (wrap64 ((m : Int) / 1000000000)) = Value.int .i64 (m2 : Int) := by
  rw [h, ← hv]
  exact congrArg _ (by omega)
theorem small_less {m m2 : Nat} (h : wrap64 ((m : Int) / 1000000000) = (m : Int) / 1000000000) (hv : m / 1000000000 = m2) (hm : m ≠ 0) :
    (intOf (Value.int .i64 (wrap64 ((m : Int) / 1000000000)))).toNat < (intOf (Value.int .i64 (m : Int))).toNat := by
  rw [h]
  simp only [intOf]
  omega
theorem div_wrap {m : Nat} (h : m ≤ 9223372036854775807) : wrap64 ((m : Int) / 1000000000) = (m : Int) / 1000000000 := IntWalk.wrap64_in _ ⟨by omega, by omega⟩
theorem mod_val (m : Nat) : (m : Int) % 1000000000 = ((m % 1000000000 : Nat) : Int) := by omega

set_option maxHeartbeats 2000000 in
set_option maxRecDepth 100000 in
theorem small_any (n : Nat) (w : World) (h : n ≤ 9223372036854775807) : Calls Try.prog 98 #[.int .i64 n] w (NewO w.heap.size n w) := by
  have H := Lib.hid h
  clear h
  obtain ⟨i0, hi, hz0, hz1, hz2⟩ := info_parts int_info
  have Hi := Lib.hid hi
  have Hz0 := Lib.hid hz0
  have Hz1 := Lib.hid hz1
  have Hz2 := Lib.hid hz2
  clear hi hz0 hz1 hz2
  go_enter Try.func98, Try.ntmps98
  go_wp2
  go_loopw [0, 3] (fun x v wr => ∃ k : Nat, k ≤ 20 ∧ x = .int .i64 (qN n k : Nat) ∧ Hid (k = 0 ∨ qN n (k - 1) ≠ 0) ∧ wr.ownsRow w.heap.size 3 1 v k (dcells n k) ∧ Below w.heap.size w wr) (fun x _ _ => (intOf x).toNat)
  case atStart => exact ⟨0, by omega, by rw [qN_zero], Lib.hid (.inl rfl), by simpa [dcells] using World.ownsRow_nil _ _ _ _, Below.refl _ _⟩
  case round =>
    rename_i wr
    obtain ⟨k, hk, rfl, hnz, hown, hb⟩ := hrel
    have HO := Lib.hid hown
    have HB := Lib.hid hb
    have hsz := hb.size
    have HM := Lib.hid (qN_dg n k)
    have HV := Lib.hid (qN_div n k)
    have HZ := Lib.hid (fun h : qN n k = 0 => lenOf_of_div h hnz.out)
    have HK := Lib.hid (fun e : k = 20 => (show qN n k = 0 by rw [e]; exact qN_20 H.out))
    have HW := Lib.hid True.intro
    have HB9 := Lib.hid (Nat.le_trans (qN_le n k) H.out)
    obtain ⟨ao, cap, rfl⟩ := own_shape1 hown
    have HNZ := Lib.hid (fun h : qN n k ≠ 0 => (show k + 1 = 0 ∨ qN n (k + 1 - 1) ≠ 0 from .inr h))
    clear hown hb hnz
    generalize hm2 : qN n (k + 1) = m2 at *
    generalize hm : qN n k = m at *
    have HM2 := Lib.hid hm2
    clear hm2 hm
    by_cases h0 : m = 0
    · have HL := Lib.hid (HZ.out h0)
      subst h0
      clear HZ HW HNZ HK HM HV
      go_wp2
      go_ret
      exact ⟨_, k, rfl, HL.out, HO.out, HB.out⟩
    · have hpos : 0 < (m : Int) := by omega
      have hk20 : k < 20 := by
        by_cases he : k = 20
        · exact absurd (HK.out he) h0
        · omega
      have HNZ2 := Lib.hid (HNZ.out h0)
      have ht : Int.tmod (m : Int) 1000000000 = ((m % 1000000000 : Nat) : Int) := tmod_nat m 1000000000
      have hq : Int.tdiv (m : Int) 1000000000 = (m2 : Int) := by
        have := tdiv_nat m 1000000000
        rw [HV.out] at this
        exact this
      have H0 := Lib.hid h0
      clear HNZ HK HZ HW
      go_wp2_with (at_builtin; refine wpList_append_own _ rfl _ _ 126 rfl w.heap.size 3 i0 (.int .i64 0) 1 8 Try.underlying126 Hi.out Hz0.out Hz1.out Hz2.out rfl (by decide) _ _ _ rfl (HO.out.alloc _) ⟨wr.heap.size, 0, none⟩ 1 1 [.int .i64 ((m % 1000000000 : Nat) : Int)] rfl rfl ?c1 (int_one _) ?c3 ?c4 ?c5 ?_)
      case c1 => rw [← mod_val m]; exact one_int wr _ _ _
      case c3 => unfold maxLen; omega
      case c4 => omega
      case c5 => simp; omega
      intro v' w2 hown2 hgrow _
      rw [mod_val m, ← HM.out] at hown2
      obtain ⟨ao2, vc2, hv2⟩ := own_shape1 hown2
      have HB2 := Lib.hid (below_own1 HB.out HO.out hgrow hsz)
      rw [hv2] at hown2 ⊢
      have HO2 := Lib.hid hown2
      clear hv2 hown2 hgrow HM HO ht hq
      go_wp2
      go_roundw
      case rel => exact ⟨k + 1, by omega, by rw [HM2.out]; exact small_val (div_wrap HB9.out) HV.out, HNZ2, HO2.out, HB2.out⟩
      case measure => exact small_less (div_wrap HB9.out) HV.out H0.out
end Go.Proofs.Ytabalicembhjmaa

namespace Go.Proofs.Ytabalicembhjmaa
open Go.RowKit
set_option linter.unusedVariables false
set_option linter.unusedSimpArgs false

/-- a number of at most 20 digits -/
def Fit (n : Nat) : Prop := n < BB ^ 20
theorem Fit.len {n L : Nat} (h : Fit n) (hl : LenOf n L) : L ≤ 20 := lenOf_le hl h
theorem Fit.le {n m : Nat} (h : Fit m) (hl : n ≤ m) : Fit n := Nat.lt_of_le_of_lt hl h
theorem carry_end {n m k : Nat} (h1 : n < BB ^ k) (h2 : m < BB ^ k) : carryP n m (k + 1) = 0 := by
  unfold carryP
  have e : BB ^ (k + 1) = BB * BB ^ k := Nat.pow_succ'
  have h3 : 2 * BB ^ k ≤ BB * BB ^ k := Nat.mul_le_mul_right _ (by decide)
  have a1 : n % BB ^ (k + 1) ≤ n := Nat.mod_le _ _
  have a2 : m % BB ^ (k + 1) ≤ m := Nat.mod_le _ _
  exact Nat.div_eq_of_lt (by omega)
theorem plus_all {n m k : Nat} (h1 : n < BB ^ k) (h2 : m < BB ^ k) (h : carryP n m k = 0) : n + m < BB ^ k := by
  have := plus_div n m k
  rw [h, Nat.div_eq_of_lt h1, Nat.div_eq_of_lt h2] at this
  exact (Nat.div_eq_zero_iff_lt (BBp k)).1 (by omega)
theorem lt_pow {n L k : Nat} (h : n < BB ^ L) (hk : L ≤ k) : n < BB ^ k := Nat.lt_of_lt_of_le h (pow_mono hk)
/-- what a round computes out of s: the digit and the carry -/
theorem digit_val {s d : Nat} {x : Int} (hx : x = (s : Nat)) (h : d = s % BB) : Value.int .i64 (x % 1000000000) = Value.int .i64 (d : Nat) := by
  subst hx h
  unfold BB
  exact congrArg _ (by omega)
theorem carry_val {s c : Nat} {x : Int} (hx : x = (s : Nat)) (h : c = s / BB) : Value.int .i64 (x / 1000000000) = Value.int .i64 (c : Nat) := by
  subst hx h
  unfold BB
  exact congrArg _ (by omega)
theorem carry_valw {s c : Nat} {x : Int} (hx : x = (s : Nat)) (h : c = s / BB) (hs : s ≤ 9223372036854775807) : Value.int .i64 (wrap64 (x / 1000000000)) = Value.int .i64 (c : Nat) := by
  subst hx
  rw [div_wrap hs]
  exact carry_val rfl h
theorem cells_snoc {n k : Nat} {u : Value} (h : u = .int .i64 (dg n k : Nat)) : dcells n k ++ [u] = dcells n (k + 1) := by rw [dcells_succ, h]
theorem below_own2 {B : Nat} {w wr w2 : World} {v : Value} {e n : Nat} {xs : List Value} {o : Obj} (hb : Below B w wr) (ho : wr.ownsRow B e 1 v n xs) (hg : (wr.alloc o).grownBy w2 v.ownBlock) (hs : B ≤ wr.heap.size) : Below B w w2 :=
  (hb.alloc hs o).grown hg (by simp; omega) fun k hk => (ho.lt k hk).1
theorem dg_le9 (n i : Nat) : ((dg n i : Nat) : Int) ≤ 999999999 := by
  have := dg_lt n i
  unfold BB at this
  omega

/-- the first rounds of plus: how far -/
def PlusR (n m L M k : Nat) : Prop := k ≤ L ∨ k ≤ M ∨ (k ≤ max L M + 1 ∧ carryP n m k = 0)

set_option maxHeartbeats 4000000 in
set_option maxRecDepth 100000 in
theorem nplus_any (B n m : Nat) (v u : Value) (w : World) (hB : B ≤ w.heap.size) (fn : Fit n) (fm : Fit m) (hv : IsN B w v n) (hu : IsN B w u m) : Calls Try.prog 100 #[v, u] w (NewO w.heap.size (n + m) w) := by
  obtain ⟨L, hL, ao, cap, rfl, c1, c2, hn, hx⟩ := hv
  obtain ⟨M, hM, bo, dap, rfl, d1, d2, hm, hy⟩ := hu
  have hl := fn.len hL
  have hml := fm.len hM
  have HX := Lib.hid hx
  have HY := Lib.hid hy
  have Hn := Lib.hid hn
  have Hm := Lib.hid hm
  clear hx hy hn hm hL hM fn fm
  obtain ⟨i0, hi, hz0, hz1, hz2⟩ := info_parts int_info
  have Hi := Lib.hid hi
  have Hz0 := Lib.hid hz0
  have Hz1 := Lib.hid hz1
  have Hz2 := Lib.hid hz2
  clear hi hz0 hz1 hz2
  go_enter Try.func100, Try.ntmps100
  go_wp2
  go_loopw [5, 6, 7] (fun o c i wr => ∃ k : Nat, k ≤ max L M + 1 ∧ i = .int .i64 k ∧ c = .int .i64 (carryP n m k : Nat) ∧ wr.ownsRow w.heap.size 3 1 o k (dcells (n + m) k) ∧ Below w.heap.size w wr) (fun _ _ i _ => max L M + 2 - (intOf i).toNat)
  case atStart => exact ⟨0, by omega, rfl, by rw [carryP_zero]; rfl, by simpa [dcells] using World.ownsRow_nil _ _ _ _, Below.refl _ _⟩
  case round =>
    rename_i wr
    obtain ⟨k, hk, rfl, rfl, hown, hb⟩ := hrel
    have HO := Lib.hid hown
    have HB := Lib.hid hb
    have hsz := hb.size
    have HD := Lib.hid (plus_dg n m k)
    have HC := Lib.hid (plus_carry n m k)
    have HE := Lib.hid (fun (h1 : L ≤ k) (h2 : M ≤ k) (h : carryP n m k = 0) => plus_all (lt_pow Hn.out h1) (lt_pow Hm.out h2) h)
    have HF := Lib.hid (fun e : k = max L M + 1 => (show carryP n m k = 0 by rw [e]; exact carry_end (lt_pow Hn.out (Nat.le_max_left _ _)) (lt_pow Hm.out (Nat.le_max_right _ _))))
    have HN0 := Lib.hid (fun h : L ≤ k => dg_zero_of_lt (lt_pow Hn.out h))
    have HM0 := Lib.hid (fun h : M ≤ k => dg_zero_of_lt (lt_pow Hm.out h))
    have hc1 := carryP_le n m k
    have hx9 := dg_le9 n k
    have hy9 := dg_le9 m k
    obtain ⟨ao2, cap2, rfl⟩ := own_shape1 hown
    generalize hcn : carryP n m (k + 1) = cn at *
    have HCN := Lib.hid hcn
    generalize carryP n m k = c at *
    clear hown hb hcn
    by_cases hkL : k < L
    · obtain ⟨b, off, rfl, hbb, hcx⟩ := HX.out (by omega)
      have hcx' := (HB.out.cell (p := ⟨b, off + k, none⟩) (Nat.lt_of_lt_of_le hbb hB)).trans (hcx k hkL)
      clear hcx
      generalize dg n k = x at *
      by_cases hkM : k < M
      · obtain ⟨b', off', rfl, hbb', hcy⟩ := HY.out (by omega)
        have hcy' := (HB.out.cell (p := ⟨b', off' + k, none⟩) (Nat.lt_of_lt_of_le hbb' hB)).trans (hcy k hkM)
        clear hcy
        generalize dg m k = y at *
        clear HE HF HN0 HM0
        have HD2 := Lib.hid (show Value.int .i64 (((c : Int) + (x : Int) + (y : Int)) % 1000000000) = .int .i64 (dg (n + m) k : Nat) from digit_val (s := c + x + y) (by omega) HD.out)
        have HC2 := Lib.hid (show Value.int .i64 (((c : Int) + (x : Int) + (y : Int)) / 1000000000) = .int .i64 (cn : Nat) from carry_val (s := c + x + y) (by omega) HC.out)
        clear HD HC
        go_wp2_with (at_builtin; refine wpList_append_own _ rfl _ _ 126 rfl w.heap.size 3 i0 (.int .i64 0) 1 8 Try.underlying126 Hi.out Hz0.out Hz1.out Hz2.out rfl (by decide) _ _ _ rfl (HO.out.alloc _) ⟨wr.heap.size, 0, none⟩ 1 1 [.int .i64 (((c : Int) + (x : Int) + (y : Int)) % 1000000000)] rfl rfl (one_int _ _ _ _) (int_one _) (by unfold maxLen; omega) (by omega) (by simp; omega) ?_)
        all_goals intro v' w2 hown2 hgrow _
        all_goals rw [cells_snoc HD2.out] at hown2
        all_goals have HB2 := Lib.hid (below_own2 HB.out HO.out hgrow hsz)
        all_goals obtain ⟨ao3, cap3, rfl⟩ := own_shape1 hown2
        all_goals have HO2 := Lib.hid hown2
        all_goals clear hown2 hgrow HO HB HD2
        all_goals go_wp2
        all_goals go_roundw
        all_goals (first | exact ⟨k + 1, by omega, by go_num, by rw [HCN.out]; exact HC2.out, HO2.out, HB2.out⟩ | (simp [intOf]; omega))
      · have hy0 := HM0.out (by omega)
        rw [hy0] at HD HC
        clear HE HF HN0 HM0 hy0 hy9
        have HD2 := Lib.hid (show Value.int .i64 (((c : Int) + (x : Int)) % 1000000000) = .int .i64 (dg (n + m) k : Nat) from digit_val (s := c + x + 0) (by omega) HD.out)
        have HC2 := Lib.hid (show Value.int .i64 (((c : Int) + (x : Int)) / 1000000000) = .int .i64 (cn : Nat) from carry_val (s := c + x + 0) (by omega) HC.out)
        clear HD HC
        go_wp2_with (at_builtin; refine wpList_append_own _ rfl _ _ 126 rfl w.heap.size 3 i0 (.int .i64 0) 1 8 Try.underlying126 Hi.out Hz0.out Hz1.out Hz2.out rfl (by decide) _ _ _ rfl (HO.out.alloc _) ⟨wr.heap.size, 0, none⟩ 1 1 [.int .i64 (((c : Int) + (x : Int)) % 1000000000)] rfl rfl (one_int _ _ _ _) (int_one _) (by unfold maxLen; omega) (by omega) (by simp; omega) ?_)
        all_goals intro v' w2 hown2 hgrow _
        all_goals rw [cells_snoc HD2.out] at hown2
        all_goals have HB2 := Lib.hid (below_own2 HB.out HO.out hgrow hsz)
        all_goals obtain ⟨ao3, cap3, rfl⟩ := own_shape1 hown2
        all_goals have HO2 := Lib.hid hown2
        all_goals clear hown2 hgrow HO HB HD2
        all_goals go_wp2
        all_goals go_roundw
        all_goals (first | exact ⟨k + 1, by omega, by go_num, by rw [HCN.out]; exact HC2.out, HO2.out, HB2.out⟩ | (simp [intOf]; omega))
    · have hx0 := HN0.out (by omega)
      rw [hx0] at HD HC
      clear hx9
      by_cases hkM : k < M
      · obtain ⟨b', off', rfl, hbb', hcy⟩ := HY.out (by omega)
        have hcy' := (HB.out.cell (p := ⟨b', off' + k, none⟩) (Nat.lt_of_lt_of_le hbb' hB)).trans (hcy k hkM)
        clear hcy
        generalize dg m k = y at *
        clear HE HF HN0 HM0 hx0
        have HD2 := Lib.hid (show Value.int .i64 (((c : Int) + (y : Int)) % 1000000000) = .int .i64 (dg (n + m) k : Nat) from digit_val (s := c + 0 + y) (by omega) HD.out)
        have HC2 := Lib.hid (show Value.int .i64 (((c : Int) + (y : Int)) / 1000000000) = .int .i64 (cn : Nat) from carry_val (s := c + 0 + y) (by omega) HC.out)
        clear HD HC
        go_wp2_with (at_builtin; refine wpList_append_own _ rfl _ _ 126 rfl w.heap.size 3 i0 (.int .i64 0) 1 8 Try.underlying126 Hi.out Hz0.out Hz1.out Hz2.out rfl (by decide) _ _ _ rfl (HO.out.alloc _) ⟨wr.heap.size, 0, none⟩ 1 1 [.int .i64 (((c : Int) + (y : Int)) % 1000000000)] rfl rfl (one_int _ _ _ _) (int_one _) (by unfold maxLen; omega) (by omega) (by simp; omega) ?_)
        all_goals intro v' w2 hown2 hgrow _
        all_goals rw [cells_snoc HD2.out] at hown2
        all_goals have HB2 := Lib.hid (below_own2 HB.out HO.out hgrow hsz)
        all_goals obtain ⟨ao3, cap3, rfl⟩ := own_shape1 hown2
        all_goals have HO2 := Lib.hid hown2
        all_goals clear hown2 hgrow HO HB HD2
        all_goals go_wp2
        all_goals go_roundw
        all_goals (first | exact ⟨k + 1, by omega, by go_num, by rw [HCN.out]; exact HC2.out, HO2.out, HB2.out⟩ | (simp [intOf]; omega))
      · have hy0 := HM0.out (by omega)
        rw [hy0] at HD HC
        clear hy9
        by_cases hc0 : c = 0
        · have HL := Lib.hid (HE.out (by omega) (by omega) hc0)
          subst hc0
          clear HE HF HN0 HM0 hx0 hy0 HD HC HCN
          go_wp2_with (go_at_call 114; refine (trim_own _ _ _ _ _ HO.out HL.out).mono ?_; rintro e w' ⟨⟨v', L', rfl, hl', ho'⟩, rfl⟩)
          all_goals
            have HO' := Lib.hid ho'
            have HL' := Lib.hid hl'
            clear ho' hl'
            go_wp2
            go_ret
            exact ⟨_, _, rfl, HL'.out, HO'.out, HB.out⟩
        · have hk1 : k ≤ max L M := by
            by_cases e : k = max L M + 1
            · exact absurd (HF.out e) hc0
            · omega
          obtain rfl : c = 1 := by omega
          clear HE HF HN0 HM0 hx0 hy0 hc0
          have HD2 := Lib.hid (show Value.int .i64 1 = .int .i64 (dg (n + m) k : Nat) from by rw [HD.out]; rfl)
          have HC2 := Lib.hid (show Value.int .i64 0 = .int .i64 (cn : Nat) from by rw [HC.out]; rfl)
          clear HD HC
          go_wp2_with (at_builtin; refine wpList_append_own _ rfl _ _ 126 rfl w.heap.size 3 i0 (.int .i64 0) 1 8 Try.underlying126 Hi.out Hz0.out Hz1.out Hz2.out rfl (by decide) _ _ _ rfl (HO.out.alloc _) ⟨wr.heap.size, 0, none⟩ 1 1 [.int .i64 1] rfl rfl (one_int _ _ _ _) (int_one _) (by unfold maxLen; omega) (by omega) (by simp; omega) ?_)
          all_goals intro v' w2 hown2 hgrow _
          all_goals rw [cells_snoc HD2.out] at hown2
          all_goals have HB2 := Lib.hid (below_own2 HB.out HO.out hgrow hsz)
          all_goals obtain ⟨ao3, cap3, rfl⟩ := own_shape1 hown2
          all_goals have HO2 := Lib.hid hown2
          all_goals clear hown2 hgrow HO HB HD2
          all_goals go_wp2
          all_goals go_roundw
          all_goals (first | exact ⟨k + 1, by omega, by go_num, by rw [HCN.out]; exact HC2.out, HO2.out, HB2.out⟩ | (simp [intOf]; omega))
end Go.Proofs.Ytabalicembhjmaa
