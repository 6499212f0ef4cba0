/- Spread of the program and of the reference. -/
import Derived.Test.YthoiamaomhggiaaInts
namespace Go.Proofs.Ythoiamaomhggiaa
open Go.RowKit
set_option linter.unusedVariables false
set_option linter.unusedSimpArgs false

/-- what stands at place i of n along the corners zs -/
def spAt (zs : List Int) (n i : Nat) : Int :=
  if n = 1 then zs.getD 0 0 else mixV (zs.getD (i * (zs.length - 1) / (n - 1)) 0) (zs.getD (i * (zs.length - 1) / (n - 1) + 1) 0) ((i * (zs.length - 1) % (n - 1) : Nat) : Int) ((n - 1 : Nat) : Int)
def spL (zs : List Int) (n k : Nat) : List Int := (List.range k).map (spAt zs n)
theorem spL_len (zs : List Int) (n k : Nat) : (spL zs n k).length = k := by simp [spL]
theorem spL_succ (zs : List Int) (n k : Nat) : spL zs n (k + 1) = spL zs n k ++ [spAt zs n k] := by simp [spL, List.range_succ]
theorem mixV_zero (a b d : Int) (hd : 0 < d) : mixV a b 0 d = a := by
  unfold mixV
  rw [Int.mul_zero, Int.add_zero]
  exact rnd_whole a d hd
theorem sp_one (zs : List Int) : spAt zs 1 0 = zs.getD 0 0 := if_pos rfl
theorem sp_corner {zs : List Int} {n i : Nat} (hn : 2 ≤ n) (h : i * (zs.length - 1) % (n - 1) = 0) : spAt zs n i = zs.getD (i * (zs.length - 1) / (n - 1)) 0 := by
  unfold spAt
  rw [if_neg (by omega), h]
  exact mixV_zero _ _ _ (by omega)
theorem sp_mix {zs : List Int} {n i : Nat} (hn : 2 ≤ n) : spAt zs n i = mixV (zs.getD (i * (zs.length - 1) / (n - 1)) 0) (zs.getD (i * (zs.length - 1) / (n - 1) + 1) 0) ((i * (zs.length - 1) % (n - 1) : Nat) : Int) ((n - 1 : Nat) : Int) := if_neg (by omega)
/-- where a place lies -/
theorem sp_k {L n i : Nat} (hn : 2 ≤ n) (hi : i < n) (hL : 0 < L) : i * (L - 1) / (n - 1) < L ∧ (i * (L - 1) % (n - 1) ≠ 0 → i * (L - 1) / (n - 1) + 1 < L) ∧ i * (L - 1) % (n - 1) < n - 1 ∧ (i * (L - 1) / (n - 1) = L - 1 → i * (L - 1) % (n - 1) = 0) := by
  have h1 : i * (L - 1) ≤ (n - 1) * (L - 1) := Nat.mul_le_mul_right _ (by omega)
  have h2 : i * (L - 1) / (n - 1) ≤ L - 1 := by
    have := Nat.div_le_div_right (c := n - 1) h1
    rwa [Nat.mul_div_cancel_left _ (by omega)] at this
  have h3 := Nat.mod_lt (i * (L - 1)) (show 0 < n - 1 by omega)
  have h4 := Nat.div_add_mod (i * (L - 1)) (n - 1)
  generalize i * (L - 1) = x at *
  have key : x / (n - 1) = L - 1 → x % (n - 1) = 0 := by
    intro e
    rw [e] at h4
    omega
  refine ⟨by omega, fun h => ?_, h3, key⟩
  have : x / (n - 1) ≠ L - 1 := fun e => h (key e)
  omega
theorem sp_bound {L n i : Nat} (hn : n ≤ 2000) (hi : i < n) (hL : L ≤ 2000) : i * (L - 1) ≤ 4000000 := by
  have := Nat.mul_le_mul (show i ≤ 2000 by omega) (show L - 1 ≤ 2000 by omega)
  omega
theorem getD_at {zs : List Int} {k : Nat} (h : k < zs.length) : zs.getD k 0 = zs[k] := by
  rw [List.getD_eq_getElem?_getD, List.getElem?_eq_getElem h]
  rfl

/-- the fault of Spread -/
structure SpOk (zs : List Int) (n : Int) : Prop where
  long : zs.length ≤ 2000
  some : 0 < zs.length
  lv : Levels zs
  n0 : 0 ≤ n
  n1 : n ≤ 2000
/-- why Spread refuses -/
inductive SpNo (zs : List Int) (n : Int) : Int → Prop
  | long : 2000 < zs.length → SpNo zs n 2
  | none : zs.length = 0 → SpNo zs n 8
  | lv (j : Nat) (hj : j < zs.length) : zs.length ≤ 2000 → (∀ i (h : i < zs.length), i < j → 0 ≤ zs[i] ∧ zs[i] ≤ 65535) → (zs[j] < 0 ∨ 65535 < zs[j]) → SpNo zs n 1
  | range : zs.length ≤ 2000 → 0 < zs.length → Levels zs → (n < 0 ∨ 2000 < n) → SpNo zs n 1
theorem sp_cases (zs : List Int) (n : Int) : SpOk zs n ∨ ∃ e, SpNo zs n e := by
  by_cases h1 : 2000 < zs.length
  · exact .inr ⟨2, .long h1⟩
  · by_cases h2 : zs.length = 0
    · exact .inr ⟨8, .none h2⟩
    · rcases levels_cases zs with h3 | ⟨j, hj, h4, h5⟩
      · by_cases h6 : 0 ≤ n ∧ n ≤ 2000
        · exact .inl ⟨by omega, by omega, h3, h6.1, h6.2⟩
        · exact .inr ⟨1, .range (by omega) (by omega) h3 (by omega)⟩
      · exact .inr ⟨1, .lv j hj (by omega) h4 h5⟩

def whenI (b : Bool) (f : Int) : Int := match b with | true => f | false => 0
def wiB (n lo hi : Int) : Bool := decide (lo ≤ n ∧ n ≤ hi)
open Classical in
noncomputable def lvI (zs : List Int) : Int := if Levels zs then 0 else 1
theorem lvI_yes {zs : List Int} (h : Levels zs) : lvI zs = 0 := if_pos h
theorem lvI_no {zs : List Int} {j : Nat} (hj : j < zs.length) (hb : zs[j] < 0 ∨ 65535 < zs[j]) : lvI zs = 1 := if_neg fun h => by have := h j hj; omega
theorem when_any (b : Bool) (f : Int) (w : World) : Calls Try.prog 55 #[.bool b, .int .i64 f] w fun e w' => e = .returned (.int .i64 (whenI b f)) ∧ w = w' := by
  cases b
  · exact when_no f w
  · exact when_yes f w
theorem within_any (n lo hi : Int) (w : World) : Calls Try.prog 56 #[.int .i64 n, .int .i64 lo, .int .i64 hi] w fun e w' => e = .returned (.bool (wiB n lo hi)) ∧ w = w' := by
  by_cases h : lo ≤ n ∧ n ≤ hi
  · rw [show wiB n lo hi = true from decide_eq_true h]
    exact within_yes n lo hi w h
  · rw [show wiB n lo hi = false from decide_eq_false h]
    exact within_no n lo hi w (by omega)
theorem levelsS_any (B : Nat) (v : Value) (zs : List Int) (w : World) (hs : IntS B w v zs) : Calls Try.prog 46 #[v] w fun e w' => e = .returned (.int .i64 (lvI zs)) ∧ w = w' := by
  rcases levels_cases zs with h | ⟨j, hj, h1, h2⟩
  · rw [show lvI zs = 0 from if_pos h]
    exact levelsS_yes B v zs w hs h
  · rw [show lvI zs = 1 from if_neg fun h => by have := h j hj; omega]
    exact levelsS_no B v zs w hs j hj h1 h2
noncomputable def spF (zs : List Int) (n : Int) : Int := firstF [whenI (decide (2000 < (zs.length : Int))) 2, lvI zs, whenI ((zs.length : Int) == 0) 8, whenI (!wiB n 0 2000) 1]
theorem firstF_pos {a : Int} {l : List Int} (h : a ≠ 0) : firstF (a :: l) = a := if_neg h
theorem firstF_zero {a : Int} {l : List Int} (h : a = 0) : firstF (a :: l) = firstF l := if_pos h
theorem spF_ok {zs : List Int} {n : Int} (h : SpOk zs n) : spF zs n = 0 := by
  unfold spF
  rw [firstF_zero (by rw [decide_eq_false (by have := h.long; omega)]; rfl), firstF_zero (lvI_yes h.lv), firstF_zero (by rw [show ((zs.length : Int) == 0) = false by have := h.some; simp; intro e; subst e; simp at this]; rfl), firstF_zero (by rw [show wiB n 0 2000 = true from decide_eq_true ⟨h.n0, h.n1⟩]; rfl)]
  rfl
theorem spF_no {zs : List Int} {n e : Int} (h : SpNo zs n e) : spF zs n = e ∧ e ≠ 0 := by
  have zl : 0 < zs.length → ((zs.length : Int) == 0) = false := fun h => by simp; intro e; subst e; simp at h
  unfold spF
  cases h with
  | long hl =>
    rw [decide_eq_true (show 2000 < (zs.length : Int) by omega)]
    exact ⟨firstF_pos (by decide), by decide⟩
  | none hl =>
    have hz : zs = [] := List.eq_nil_of_length_eq_zero hl
    subst hz
    rw [firstF_zero (a := whenI (decide (2000 < (([] : List Int).length : Int))) 2) rfl, firstF_zero (lvI_yes (fun i h => by simp at h))]
    exact ⟨firstF_pos (by decide), by decide⟩
  | lv j hj hl h1 h2 =>
    rw [firstF_zero (by rw [decide_eq_false (by omega)]; rfl)]
    have : lvI zs = 1 := if_neg fun h => by have := h j hj; omega
    rw [this]
    exact ⟨firstF_pos (by decide), by decide⟩
  | range hl h0 hr hn =>
    rw [firstF_zero (by rw [decide_eq_false (by omega)]; rfl), firstF_zero (lvI_yes hr), firstF_zero (by rw [zl h0]; rfl), show wiB n 0 2000 = false from decide_eq_false (by omega)]
    exact ⟨firstF_pos (by decide), by decide⟩

theorem row4c {W : World} {b : Nat} {x y z u : Int} (h1 : W.cell? ⟨b, 0, none⟩ = some (.int .i64 x)) (h2 : W.cell? ⟨b, 1, none⟩ = some (.int .i64 y)) (h3 : W.cell? ⟨b, 2, none⟩ = some (.int .i64 z)) (h4 : W.cell? ⟨b, 3, none⟩ = some (.int .i64 u)) : RowAt .i64 W b 0 [x, y, z, u] := by
  intro i h
  match i, h with
  | 0, _ => simpa using h1
  | 1, _ => simpa using h2
  | 2, _ => simpa using h3
  | 3, _ => simpa using h4
theorem first4c (b : Nat) (x y z u r : Int) (W : World) (hr : firstF [x, y, z, u] = r) (h1 : W.cell? ⟨b, 0, none⟩ = some (.int .i64 x)) (h2 : W.cell? ⟨b, 1, none⟩ = some (.int .i64 y)) (h3 : W.cell? ⟨b, 2, none⟩ = some (.int .i64 z)) (h4 : W.cell? ⟨b, 3, none⟩ = some (.int .i64 u)) :
    Calls Try.prog 50 #[.slice (some ⟨b, 0, none⟩) 4 4] W fun e w' => e = .returned (.int .i64 r) ∧ W = w' := by
  subst hr
  exact first_any b 0 4 [x, y, z, u] W (by simp) (row4c h1 h2 h3 h4)

def NilP (f : Int) (w : World) (e : Ending) (w' : World) : Prop := e = .returned (.tuple #[.slice none 0 0, .int .i64 f]) ∧ Below w.heap.size w w'
def IntsP (zs : List Int) (w : World) (e : Ending) (w' : World) : Prop := ∃ v, e = .returned (.tuple #[v, .int .i64 0]) ∧ OwnI w.heap.size w' v zs ∧ Below w.heap.size w w'

set_option maxHeartbeats 4000000 in
theorem spread_no (B : Nat) (v : Value) (zs : List Int) (n f : Int) (w : World) (hs : IntS B w v zs) (hf : spF zs n = f) (h0 : f ≠ 0) :
    Calls Try.prog 24 #[v, .int .i64 n] w (NilP f w) := by
  have HL := Lib.hid (levelsS_any B v zs w hs)
  obtain ⟨ao, cap, rfl, c1, c2, -⟩ := hs
  unfold spF at hf
  obtain ⟨b1, hb1⟩ : ∃ b, decide (2000 < (zs.length : Int)) = b := ⟨_, rfl⟩
  obtain ⟨b3, hb3⟩ : ∃ b, ((zs.length : Int) == 0) = b := ⟨_, rfl⟩
  rw [hb1, hb3] at hf
  have HF := Lib.hid hf
  have hf0 : (f != 0) = true := by simpa using h0
  generalize lvI zs = lv at *
  have HWi := Lib.hid (fun W => within_any n 0 2000 W)
  generalize wiB n 0 2000 = wb at *
  clear hf h0
  go_enter Try.func24, Try.ntmps24
  go_wp2_with (first
    | (go_at_call 55; refine (when_any _ _ _).mono ?_; rintro e w' ⟨rfl, rfl⟩)
    | (go_at_call 46; refine HL.out.mono ?_; rintro e w' ⟨rfl, rfl⟩)
    | (go_at_call 56; refine (HWi.out _).mono ?_; rintro e w' ⟨rfl, rfl⟩)
    | (go_at_call 50; refine (first4c _ _ _ _ _ f _ HF.out (by simp) (by simp) (by simp) (by simp)).mono ?_; rintro e w' ⟨rfl, rfl⟩))
  go_ret2
  exact ⟨rfl, by go_grown⟩

theorem own_i_grown {base : Nat} {w wr w2 : World} {v : Value} {zs : List Int} {o : Obj} (hb : Below base w wr) (ho : OwnI base wr v zs) (hg : (wr.alloc o).grownBy w2 v.ownBlock) (hs : base ≤ wr.heap.size) : Below base w w2 :=
  (hb.alloc hs o).grown hg (by simp; omega) fun k hk => (World.ownsRow.lt ho k hk).1

set_option maxHeartbeats 8000000 in
set_option maxRecDepth 100000 in
theorem spread_yes (B : Nat) (v : Value) (zs : List Int) (n : Nat) (w : World) (hB : B ≤ w.heap.size) (hs : IntS B w v zs) (h : SpOk zs n) :
    Calls Try.prog 24 #[v, .int .i64 n] w (IntsP (spL zs n n) w) := by
  have HL := Lib.hid (levelsS_any B v zs w hs)
  have hf := spF_ok h
  have HLv := Lib.hid h.lv
  have hlen := h.long
  have hsome := h.some
  have hn := h.n1
  obtain ⟨ao, cap, rfl, c1, c2, hx⟩ := hs
  obtain ⟨b, off, rfl, hbb, hc⟩ := hx hsome
  have HC := Lib.hid hc
  have hc0 := hc 0 hsome
  unfold spF at hf
  obtain ⟨b1, hb1⟩ : ∃ b, decide (2000 < (zs.length : Int)) = b := ⟨_, rfl⟩
  obtain ⟨b3, hb3⟩ : ∃ b, ((zs.length : Int) == 0) = b := ⟨_, rfl⟩
  rw [hb1, hb3] at hf
  have HF := Lib.hid hf
  generalize lvI zs = lv at *
  have HWi := Lib.hid (fun W => within_any n 0 2000 W)
  generalize wiB (n : Int) 0 2000 = wb at *
  clear hf h hx hc
  go_enter Try.func24, Try.ntmps24
  go_wp2_with (first
    | (go_at_call 55; refine (when_any _ _ _).mono ?_; rintro e w' ⟨rfl, rfl⟩)
    | (go_at_call 46; refine HL.out.mono ?_; rintro e w' ⟨rfl, rfl⟩)
    | (go_at_call 56; refine (HWi.out _).mono ?_; rintro e w' ⟨rfl, rfl⟩)
    | (go_at_call 50; refine (first4c _ _ _ _ _ 0 _ HF.out (by simp) (by simp) (by simp) (by simp)).mono ?_; rintro e w' ⟨rfl, rfl⟩))
  clear hb1 hb3 HL HF HWi
  go_loopw [7, 32] (fun o i wr => ∃ k : Nat, k ≤ n ∧ i = .int .i64 k ∧ OwnI w.heap.size wr o (spL zs n k) ∧ Below w.heap.size w wr ∧ Hid (k = 0 ∨ n ≠ 1)) (fun _ i _ => n - (intOf i).toNat)
  case atStart => exact ⟨0, Nat.zero_le _, rfl, OwnI.nil _ _, by go_grown, Lib.hid (.inl rfl)⟩
  case round =>
    obtain ⟨k, hk, rfl, hown, hb, hk1⟩ := hrel
    have HO := Lib.hid hown
    have HB := Lib.hid hb
    have hsz := hb.size
    obtain ⟨ao2, cap2, rfl⟩ := hown.shape
    have hlk : (spL zs n k).length = k := spL_len _ _ _
    rw [hlk]
    rw [hlk] at HO
    clear hown hb
    by_cases hlt : k < n
    · by_cases hn1 : n = 1
      · subst hn1
        obtain rfl : k = 0 := by omega
        have hcw : wr.cell? ⟨b, off, none⟩ = some (.int .i64 zs[0]) := by
          have := (HB.out.cell (p := ⟨b, off + 0, none⟩) (Nat.lt_of_lt_of_le hbb hB)).trans hc0
          simpa using this
        have HV := Lib.hid (show spAt zs 1 0 = zs[0] by rw [sp_one]; exact getD_at hsome)
        clear hc0
        generalize zs[0] = z0 at *
        go_wp2_with (at_builtin; refine wpList_int rfl _ _ rfl w.heap.size 1 _ (spL zs 1 0) z0 _ rfl rfl (HO.out.alloc _) (one_int _ _ _ _) (by rw [hlk]; omega) (by simp; omega) ?_)
        intro v' w2 ho2 hg2
        have HB2 := Lib.hid (own_i_grown HB.out HO.out hg2 hsz)
        rw [← HV.out, ← spL_succ] at ho2
        have HO2 := Lib.hid ho2
        obtain ⟨ao3, cap3, rfl⟩ := ho2.shape
        rw [spL_len] at HO2 ⊢
        clear ho2 hg2
        go_wp2
        go_ret2
        exact ⟨_, rfl, HO2.out, HB2.out⟩
      · have hn2 : 2 ≤ n := by omega
        have hne : ((n : Int) == 1) = false := by simp; omega
        obtain ⟨k1, k2, k3, -⟩ := sp_k (L := zs.length) hn2 hlt hsome
        have hxb := sp_bound (L := zs.length) (n := n) (i := k) (by omega) hlt hlen
        have HCO := Lib.hid (sp_corner (zs := zs) (i := k) hn2)
        have HMI := Lib.hid (sp_mix (zs := zs) (i := k) hn2)
        obtain ⟨L1, hL1⟩ : ∃ L1 : Nat, zs.length - 1 = L1 := ⟨_, rfl⟩
        obtain ⟨n1, hn1'⟩ : ∃ n1 : Nat, n - 1 = n1 := ⟨_, rfl⟩
        rw [hL1, hn1'] at k1 k2 k3 HCO HMI
        rw [hL1] at hxb
        obtain ⟨x, hx⟩ : ∃ x : Nat, k * L1 = x := ⟨_, rfl⟩
        rw [hx] at k1 k2 k3 HCO HMI hxb
        have eL : (zs.length : Int) - 1 = (L1 : Int) := by omega
        have en : (n : Int) - 1 = (n1 : Int) := by omega
        have ex : (k : Int) * (L1 : Int) = (x : Int) := by rw [← hx]; exact (Int.natCast_mul k L1).symm
        have hn10 : (0 : Int) < (n1 : Int) := by omega
        have hx9 : (x : Int) ≤ 4000000 := by omega
        obtain ⟨kk, hkk⟩ : ∃ q : Nat, x / n1 = q := ⟨_, rfl⟩
        obtain ⟨r, hr⟩ : ∃ q : Nat, x % n1 = q := ⟨_, rfl⟩
        obtain ⟨q1, q2⟩ := quo_facts hkk
        obtain ⟨r1, r2⟩ := rem_facts hr
        rw [hkk] at k1 k2 HCO HMI
        rw [hr] at k2 k3 HCO HMI
        have hcz : wr.cell? ⟨b, off + kk, none⟩ = some (.int .i64 zs[kk]) := (HB.out.cell (p := ⟨b, off + kk, none⟩) (Nat.lt_of_lt_of_le hbb hB)).trans (HC.out kk k1)
        have hgd := getD_at k1
        rw [hgd] at HCO HMI
        clear hx hkk hr hL1 hn1' hgd hc0
        by_cases hr0 : r = 0
        · have HV := Lib.hid (HCO.out hr0)
          subst hr0
          clear HCO HMI k2 k3
          generalize zs[kk] = z0 at *
          go_wp2
          go_quiet (fail)
          go_wp2_with (at_builtin; refine wpList_int rfl _ _ rfl w.heap.size 1 _ (spL zs n k) z0 _ rfl rfl (OwnI.alloc (w := World.drewN _ _) HO.out _) (one_int _ _ _ _) (by rw [hlk]; omega) (by simp; omega) ?_)
          intro v' w2 ho2 hg2
          have HB2 := Lib.hid (own_i_grown (below_drewN HB.out) HO.out hg2 hsz)
          rw [← HV.out, ← spL_succ] at ho2
          have HO2 := Lib.hid ho2
          obtain ⟨ao3, cap3, rfl⟩ := ho2.shape
          rw [spL_len] at HO2 ⊢
          clear ho2 hg2 HO HB
          go_wp2
          go_roundw
          case rel => exact ⟨k + 1, by omega, by go_num, HO2.out, HB2.out, Lib.hid (.inr hn1)⟩
          case measure => simp [intOf]; omega
        · have hrd : ((r : Int) == 0) = false := by simp; omega
          have k22 := k2 hr0
          have hcz2 : wr.cell? ⟨b, off + (kk + 1), none⟩ = some (.int .i64 zs[kk + 1]) := (HB.out.cell (p := ⟨b, off + (kk + 1), none⟩) (Nat.lt_of_lt_of_le hbb hB)).trans (HC.out (kk + 1) k22)
          have hgd := getD_at k22
          rw [hgd] at HMI
          have hM : MixOk zs[kk] zs[kk + 1] r n1 := ⟨⟨HLv.out kk k1, HLv.out (kk + 1) k22⟩, ⟨by omega, by omega⟩, by omega, by omega⟩
          have HM := Lib.hid (fun W => mix_any _ _ _ _ W hM)
          clear HCO k2 hr0 hgd hM
          obtain ⟨kq, hkq⟩ : ∃ q : Nat, kk + 1 = q := ⟨_, rfl⟩
          have ek : (kk : Int) + 1 = (kq : Int) := by omega
          generalize zs[kk] = z0 at *
          generalize zs[kk + 1] = z1 at *
          rw [hkq] at hcz2 k22
          clear hkq
          go_wp2
          go_quiet (fail)
          have KP := Lib.hid (show ∀ W, Below w.heap.size w W → (Below w.heap.size w W ∧ W.cell? ⟨b, off + kk, none⟩ = some (.int .i64 z0) ∧ W.cell? ⟨b, off + kq, none⟩ = some (.int .i64 z1)) from fun W hW => by
            have e := HB.out
            exact ⟨hW, (hW.cell (p := ⟨b, off + kk, none⟩) (Nat.lt_of_lt_of_le hbb hB)).trans ((e.cell (p := ⟨b, off + kk, none⟩) (Nat.lt_of_lt_of_le hbb hB)).symm.trans hcz), (hW.cell (p := ⟨b, off + kq, none⟩) (Nat.lt_of_lt_of_le hbb hB)).trans ((e.cell (p := ⟨b, off + kq, none⟩) (Nat.lt_of_lt_of_le hbb hB)).symm.trans hcz2)⟩)
          go_wp2
          have hw1 : IntKind.i64.wrap (kq : Int) = (kq : Int) := IntWalk.i64_in _ (by omega)
          have hw2 : IntKind.i64.wrap (n1 : Int) = (n1 : Int) := IntWalk.i64_in _ (by omega)
          have hw3 : IntKind.i64.wrap ((kk : Int) + 1) = (kq : Int) := by rw [ek]; exact hw1
          have hw4 : IntKind.i64.wrap ((n : Int) - 1) = (n1 : Int) := by rw [en]; exact hw2
          have hi1 : (kq : Int) < (zs.length : Int) := by omega
          have hi2 : (0 : Int) ≤ (kq : Int) := by omega
          have hi3 : (kk : Int) < (zs.length : Int) := by omega
          go_region_held3 (fun W => Below w.heap.size w W ∧ W.cell? ⟨b, off + kk, none⟩ = some (.int .i64 z0) ∧ W.cell? ⟨b, off + kq, none⟩ = some (.int .i64 z1))
            (first | exact KP.out _ (by assumption) | exact KP.out _ (below_drewN HB.out) | exact KP.out _ ((below_drewN HB.out).drew) | exact KP.out _ ((below_drewN HB.out).alloc hsz _))
            (first
              | (go_at_call 52; refine (HM.out _).mono ?_; rintro e w' ⟨rfl, rfl⟩)
              | ((refine step_int (by rfl) _ _ (by rfl) w.heap.size 1 _ (spL zs n k) (mixV z0 z1 r n1) _ (by rfl) (by rfl) (OwnI.alloc (w := World.drewN _ _) HO.out _) (one_int _ _ _ _) (by rw [hlk]; omega) (by simp; omega) ?_); intro v' w2 ho2 hg2; have hb2 := own_i_grown (below_drewN HB.out) HO.out hg2 hsz)
              | fail)
          all_goals
            have HB2 := Lib.hid hb2
            rw [← HMI.out, ← spL_succ] at ho2
            have HO2 := Lib.hid ho2
            obtain ⟨ao3, cap3, rfl⟩ := ho2.shape
            rw [spL_len] at HO2 ⊢
            clear ho2 hg2 hb2 HO HB hw1 hw2 hw3 hw4 hi1 hi2 hi3
            go_wp2
            go_roundw
            case rel => exact ⟨k + 1, by omega, by go_num, HO2.out, HB2.out, Lib.hid (.inr hn1)⟩
            case measure => simp [intOf]; omega
    · obtain rfl : k = n := by omega
      go_wp2
      go_ret2
      exact ⟨_, rfl, HO.out, HB.out⟩

/-! ### the reference -/
set_option maxHeartbeats 4000000 in
theorem rspread_no (B : Nat) (v : Value) (zs : List Int) (n f : Int) (w : World) (hs : IntS B w v zs) (h : SpNo zs n f) :
    Calls Try.prog 25 #[v, .int .i64 n] w (NilP f w) := by
  obtain ⟨ao, cap, rfl, c1, c2, hx⟩ := hs
  cases h with
  | long hl =>
    have hd : decide (2000 < (zs.length : Int)) = true := by simp; omega
    clear hx hl
    go_enter Try.func25, Try.ntmps25
    go_wp2
    go_ret2
    exact ⟨rfl, Below.refl _ _⟩
  | none hl =>
    rw [hl]
    clear hx
    go_enter Try.func25, Try.ntmps25
    go_wp2
    go_ret2
    exact ⟨rfl, Below.refl _ _⟩
  | lv j hj hl h1 h2 =>
    obtain ⟨b, off, rfl, hbb, hc⟩ := hx (by omega)
    have HC := Lib.hid hc
    have H1 := Lib.hid h1
    have H2 := Lib.hid h2
    have hl0 : ((zs.length : Int) == 0) = false := by simp; intro e; subst e; simp at hj
    have hlI : (zs.length : Int) ≤ 2000 := by omega
    clear hc h1 h2 hx
    go_enter Try.func25, Try.ntmps25
    go_wp2
    go_loop [22] (fun i => ∃ k : Nat, k ≤ j ∧ i = .int .i64 k) (fun i => zs.length - (intOf i).toNat)
    case atStart => exact ⟨0, Nat.zero_le _, rfl⟩
    case round =>
      obtain ⟨k, hk, rfl⟩ := hrel
      have hlt : k < zs.length := by omega
      have hcell := HC.out k hlt
      by_cases hkj : k < j
      · have HZ := Lib.hid (H1.out k hlt hkj)
        generalize zs[k] = z at *
        go_wp2_with (go_at_call 47; refine (rIsLevel_yes _ _ HZ.out).mono ?_; rintro e w' ⟨rfl, rfl⟩)
        go_round
        case rel => exact ⟨k + 1, by omega, by go_num⟩
        case measure => simp [intOf]; omega
      · obtain rfl : k = j := by omega
        have HZ := Lib.hid H2.out
        clear H1 H2
        generalize zs[k] = z at *
        go_wp2_with (go_at_call 47; refine (rIsLevel_no _ _ HZ.out).mono ?_; rintro e w' ⟨rfl, rfl⟩)
        go_ret2
        exact ⟨rfl, Below.refl _ _⟩
  | range hl h0 hr hn =>
    obtain ⟨b, off, rfl, hbb, hc⟩ := hx h0
    have HC := Lib.hid hc
    have HR := Lib.hid hr
    have HN := Lib.hid hn
    have hl0 : ((zs.length : Int) == 0) = false := by simp; intro e; subst e; simp at h0
    have hlI : (zs.length : Int) ≤ 2000 := by omega
    clear hc hr hn hx
    go_enter Try.func25, Try.ntmps25
    go_wp2
    go_loop [22] (fun i => ∃ k : Nat, k ≤ zs.length ∧ i = .int .i64 k) (fun i => zs.length - (intOf i).toNat)
    case atStart => exact ⟨0, Nat.zero_le _, rfl⟩
    case round =>
      obtain ⟨k, hk, rfl⟩ := hrel
      by_cases hlt : k < zs.length
      · have hcell := HC.out k hlt
        have HZ := Lib.hid (HR.out k hlt)
        generalize zs[k] = z at *
        go_wp2_with (go_at_call 47; refine (rIsLevel_yes _ _ HZ.out).mono ?_; rintro e w' ⟨rfl, rfl⟩)
        go_round
        case rel => exact ⟨k + 1, by omega, by go_num⟩
        case measure => simp [intOf]; omega
      · obtain rfl : k = zs.length := by omega
        go_wp2_with (go_at_call 53; refine (r1within_no _ _ _ _ HN.out).mono ?_; rintro e w' ⟨rfl, rfl⟩)
        go_ret2
        exact ⟨rfl, Below.refl _ _⟩

set_option maxHeartbeats 16000000 in
set_option maxRecDepth 100000 in
theorem rspread_yes (B : Nat) (v : Value) (zs : List Int) (n : Nat) (w : World) (hB : B ≤ w.heap.size) (hs : IntS B w v zs) (h : SpOk zs n) :
    Calls Try.prog 25 #[v, .int .i64 n] w (IntsP (spL zs n n) w) := by
  have HLv := Lib.hid h.lv
  have hlen := h.long
  have hsome := h.some
  have hn := h.n1
  have HN := Lib.hid (show (0 : Int) ≤ (n : Int) ∧ (n : Int) ≤ 2000 from ⟨h.n0, h.n1⟩)
  obtain ⟨ao, cap, rfl, c1, c2, hx⟩ := hs
  obtain ⟨b, off, rfl, hbb, hc⟩ := hx hsome
  have HC := Lib.hid hc
  have HC0 := Lib.hid (hc 0 hsome)
  have hl0 : ((zs.length : Int) == 0) = false := by simp; intro e; subst e; simp at hsome
  have hlI : (zs.length : Int) ≤ 2000 := by omega
  clear h hx hc
  go_enter Try.func25, Try.ntmps25
  go_wp2
  go_loop [22] (fun i => ∃ k : Nat, k ≤ zs.length ∧ i = .int .i64 k) (fun i => zs.length - (intOf i).toNat)
  case atStart => exact ⟨0, Nat.zero_le _, rfl⟩
  case round =>
    obtain ⟨k0, hk0, rfl⟩ := hrel
    by_cases hlt0 : k0 < zs.length
    · have hcell := HC.out k0 hlt0
      have HZ := Lib.hid (HLv.out k0 hlt0)
      generalize zs[k0] = z at *
      go_wp2_with (go_at_call 47; refine (rIsLevel_yes _ _ HZ.out).mono ?_; rintro e w' ⟨rfl, rfl⟩)
      go_round
      case rel => exact ⟨k0 + 1, by omega, by go_num⟩
      case measure => simp [intOf]; omega
    · obtain rfl : k0 = zs.length := by omega
      go_wp2_with (go_at_call 53; refine (r1within_yes _ _ _ _ HN.out).mono ?_; rintro e w' ⟨rfl, rfl⟩)
      clear HN hl0 hk0 hlt0
      go_loopw [8, 34] (fun o i wr => ∃ k : Nat, k ≤ n ∧ i = .int .i64 k ∧ OwnI w.heap.size wr o (spL zs n k) ∧ Below w.heap.size w wr) (fun _ i _ => n - (intOf i).toNat)
      case atStart => exact ⟨0, Nat.zero_le _, rfl, OwnI.nil _ _, Below.refl _ _⟩
      case round =>
        obtain ⟨k, hk, rfl, hown, hb⟩ := hrel
        have HO := Lib.hid hown
        have HB := Lib.hid hb
        have hsz := hb.size
        obtain ⟨ao2, cap2, rfl⟩ := hown.shape
        have hlk : (spL zs n k).length = k := spL_len _ _ _
        rw [hlk]
        rw [hlk] at HO
        have hcw : wr.cell? ⟨b, off, none⟩ = some (.int .i64 zs[0]) := by
          have := (HB.out.cell (p := ⟨b, off + 0, none⟩) (Nat.lt_of_lt_of_le hbb hB)).trans HC0.out
          simpa using this
        clear hown hb
        by_cases hlt : k < n
        · by_cases hone : n = 1 ∨ zs.length = 1
          · have HV := Lib.hid (show spAt zs n k = zs[0] by
              by_cases hn1 : n = 1
              · obtain rfl : k = 0 := by omega
                rw [hn1, sp_one]; exact getD_at hsome
              · have hL := hone.resolve_left hn1
                have := sp_corner (zs := zs) (n := n) (i := k) (by omega) (by rw [hL]; simp)
                rw [this, hL]
                simp only [Nat.sub_self, Nat.mul_zero, Nat.zero_div]
                exact getD_at hsome)
            have hcs : (((n : Int) == 1) = true) ∨ (((n : Int) == 1) = false ∧ ((zs.length : Int) == 1) = true) := by
              by_cases hn1 : n = 1
              · left; simp; omega
              · right; have hL := hone.resolve_left hn1; simp; omega
            clear hone
            generalize zs[0] = z0 at *
            rcases hcs with h1 | ⟨h1, h2⟩
            all_goals
              go_wp2_with (at_builtin; refine wpList_int rfl _ _ rfl w.heap.size 1 _ (spL zs n k) z0 _ rfl rfl (HO.out.alloc _) (one_int _ _ _ _) (by rw [hlk]; omega) (by simp; omega) ?_)
              intro v' w2 ho2 hg2
              have HB2 := Lib.hid (own_i_grown HB.out HO.out hg2 hsz)
              rw [← HV.out, ← spL_succ] at ho2
              have HO2 := Lib.hid ho2
              obtain ⟨ao3, cap3, rfl⟩ := ho2.shape
              rw [spL_len] at HO2 ⊢
              clear ho2 hg2 HO HB
              go_wp2
              go_roundw
              case rel => exact ⟨k + 1, by omega, by go_num, HO2.out, HB2.out⟩
              case measure => simp [intOf]; omega
          · have hn2 : 2 ≤ n := by omega
            have hL2 : 2 ≤ zs.length := by omega
            have hne : ((n : Int) == 1) = false := by simp; omega
            have hLe : ((zs.length : Int) == 1) = false := by simp; omega
            obtain ⟨k1, k2, k3, k4⟩ := sp_k (L := zs.length) hn2 hlt hsome
            have hxb := sp_bound (L := zs.length) (n := n) (i := k) (by omega) hlt hlen
            have HCO := Lib.hid (sp_corner (zs := zs) (i := k) hn2)
            have HMI := Lib.hid (sp_mix (zs := zs) (i := k) hn2)
            obtain ⟨L1, hL1⟩ : ∃ L1 : Nat, zs.length - 1 = L1 := ⟨_, rfl⟩
            obtain ⟨n1, hn1'⟩ : ∃ n1 : Nat, n - 1 = n1 := ⟨_, rfl⟩
            rw [hL1, hn1'] at k1 k2 k3 k4 HCO HMI
            rw [hL1] at hxb
            obtain ⟨x, hx⟩ : ∃ x : Nat, k * L1 = x := ⟨_, rfl⟩
            rw [hx] at k1 k2 k3 k4 HCO HMI hxb
            have eL : (zs.length : Int) - 1 = (L1 : Int) := by omega
            have en : (n : Int) - 1 = (n1 : Int) := by omega
            have ex : (k : Int) * (L1 : Int) = (x : Int) := by rw [← hx]; exact (Int.natCast_mul k L1).symm
            have hn10 : (0 : Int) < (n1 : Int) := by omega
            have hx9 : (x : Int) ≤ 4000000 := by omega
            obtain ⟨kk, hkk⟩ : ∃ q : Nat, x / n1 = q := ⟨_, rfl⟩
            obtain ⟨r, hr⟩ : ∃ q : Nat, x % n1 = q := ⟨_, rfl⟩
            obtain ⟨q1, q2⟩ := quo_facts hkk
            obtain ⟨r1, r2⟩ := rem_facts hr
            rw [hkk] at k1 k2 k4 HCO HMI
            rw [hr] at k2 k3 k4 HCO HMI
            have hcz : wr.cell? ⟨b, off + kk, none⟩ = some (.int .i64 zs[kk]) := (HB.out.cell (p := ⟨b, off + kk, none⟩) (Nat.lt_of_lt_of_le hbb hB)).trans (HC.out kk k1)
            have hgd := getD_at k1
            rw [hgd] at HCO HMI
            clear hx hkk hr hn1' hgd hcw hone
            by_cases hkL : kk = L1
            · have HV := Lib.hid (HCO.out (k4 hkL))
              clear HCO HMI k2 k3 k4 r1 r2 hL1
              subst hkL
              generalize zs[kk] = z0 at *
              go_wp2_with (at_builtin; refine wpList_int rfl _ _ rfl w.heap.size 1 _ (spL zs n k) z0 _ rfl rfl (HO.out.alloc _) (one_int _ _ _ _) (by rw [hlk]; omega) (by simp; omega) ?_)
              intro v' w2 ho2 hg2
              have HB2 := Lib.hid (own_i_grown HB.out HO.out hg2 hsz)
              rw [← HV.out, ← spL_succ] at ho2
              have HO2 := Lib.hid ho2
              obtain ⟨ao3, cap3, rfl⟩ := ho2.shape
              rw [spL_len] at HO2 ⊢
              clear ho2 hg2 HO HB
              go_wp2
              go_roundw
              case rel => exact ⟨k + 1, by omega, by go_num, HO2.out, HB2.out⟩
              case measure => simp [intOf]; omega
            · have hkd : ((kk : Int) == (L1 : Int)) = false := by simp; omega
              have k22 : kk + 1 < zs.length := by omega
              have hcz2 : wr.cell? ⟨b, off + (kk + 1), none⟩ = some (.int .i64 zs[kk + 1]) := (HB.out.cell (p := ⟨b, off + (kk + 1), none⟩) (Nat.lt_of_lt_of_le hbb hB)).trans (HC.out (kk + 1) k22)
              have hgd := getD_at k22
              rw [hgd] at HMI
              have z1b := HLv.out kk k1
              have z2b := HLv.out (kk + 1) k22
              have hr9 : r ≤ n1 := by omega
              clear HCO k2 k4 hgd hkL hL1
              obtain ⟨kq, hkq⟩ : ∃ q : Nat, kk + 1 = q := ⟨_, rfl⟩
              have ek : (kk : Int) + 1 = (kq : Int) := by omega
              generalize zs[kk] = z0 at *
              generalize zs[kk + 1] = z1 at *
              rw [hkq] at hcz2 k22
              clear hkq
              have HPA := Lib.hid (fun W => part_any r n1 W (by omega) (by omega))
              have HM := Lib.hid (fun (W : World) u hq => mixQ W.heap.size n1 z0 z1 r u W (Nat.le_refl _) z1b z2b ⟨by omega, by omega, by omega, Nat.lt_of_le_of_lt (show n1 ≤ 2000 by omega) (by decide)⟩ hq)
              have KP := Lib.hid (show ∀ W, Below w.heap.size w W → (Below w.heap.size w W ∧ W.cell? ⟨b, off + kk, none⟩ = some (.int .i64 z0) ∧ W.cell? ⟨b, off + kq, none⟩ = some (.int .i64 z1)) from fun W hW => by
                have e := HB.out
                exact ⟨hW, (hW.cell (p := ⟨b, off + kk, none⟩) (Nat.lt_of_lt_of_le hbb hB)).trans ((e.cell (p := ⟨b, off + kk, none⟩) (Nat.lt_of_lt_of_le hbb hB)).symm.trans hcz), (hW.cell (p := ⟨b, off + kq, none⟩) (Nat.lt_of_lt_of_le hbb hB)).trans ((e.cell (p := ⟨b, off + kq, none⟩) (Nat.lt_of_lt_of_le hbb hB)).symm.trans hcz2)⟩)
              clear z1b z2b
              go_wp2
              have hw1 : IntKind.i64.wrap (kq : Int) = (kq : Int) := IntWalk.i64_in _ (by omega)
              have hw2 : IntKind.i64.wrap (n1 : Int) = (n1 : Int) := IntWalk.i64_in _ (by omega)
              have hw3 : IntKind.i64.wrap ((kk : Int) + 1) = (kq : Int) := by rw [ek]; exact hw1
              have hw4 : IntKind.i64.wrap ((n : Int) - 1) = (n1 : Int) := by rw [en]; exact hw2
              have hi1 : (kq : Int) < (zs.length : Int) := by omega
              have hi2 : (0 : Int) ≤ (kq : Int) := by omega
              have hi3 : (kk : Int) < (zs.length : Int) := by omega
              have hw5 : IntKind.i64.wrap (r : Int) = (r : Int) := IntWalk.i64_in _ (by omega)
              have hz1 : ((n1 : Int) == 0) = false := by simp; omega
              have hz2 : ¬ n1 = 0 := by omega
              have hbd : Below w.heap.size w (World.drew wr) := HB.out.drew
              go_region_held3 (fun W => Below w.heap.size w W ∧ W.cell? ⟨b, off + kk, none⟩ = some (.int .i64 z0) ∧ W.cell? ⟨b, off + kq, none⟩ = some (.int .i64 z1))
                (first | exact KP.out _ (by assumption) | exact KP.out _ (hbm.alloc (Nat.le_trans hsz hsm) _))
                (first
                  | (go_at_call 48; refine (HPA.out _).mono ?_; rintro e wp ⟨vp, rfl, hqp, _, hbp⟩; have hbp2 : Below w.heap.size w wp := hbd.trans (hbp.mono hsz); have HOP := Lib.hid (OwnI.below (w := World.drew wr) HO.out hbp); have hsp : wr.heap.size ≤ wp.heap.size := hbp.size; have HQP := Lib.hid hqp; obtain ⟨sp, aop, Lp, capp, bop, Mp, capmp, rfl⟩ := isQ_shape hqp; clear hqp hbp)
                  | (go_at_call 54; refine (HM.out _ _ HQP.out).mono ?_; rintro e wm ⟨rfl, hbm0⟩; have hbm : Below w.heap.size w wm := hbp2.trans (hbm0.mono (Nat.le_trans hsz hsp)); have HOM := Lib.hid (OwnI.below HOP.out hbm0); have hsm : wr.heap.size ≤ wm.heap.size := Nat.le_trans hsp hbm0.size; clear hbm0)
                  | ((refine step_int (by rfl) _ _ (by rfl) w.heap.size 1 _ (spL zs n k) (mixV z0 z1 r n1) _ (by rfl) (by rfl) (HOM.out.alloc _) (one_int _ _ _ _) (by rw [hlk]; omega) (by simp; omega) ?_); intro v' w2 ho2 hg2; have hb2 := own_i_grown hbm HOM.out hg2 (Nat.le_trans hsz hsm))
                  | fail)
              all_goals
                have HB2 := Lib.hid hb2
                rw [← HMI.out, ← spL_succ] at ho2
                have HO2 := Lib.hid ho2
                obtain ⟨ao3, cap3, rfl⟩ := ho2.shape
                rw [spL_len] at HO2 ⊢
                clear ho2 hg2 hb2 HO HB hw1 hw2 hw3 hw4 hw5 hz1 hz2 hi1 hi2 hi3
                go_wp2
                go_roundw
                case rel => exact ⟨k + 1, by omega, by go_num, HO2.out, HB2.out⟩
                case measure => simp [intOf]; omega
        · obtain rfl : k = n := by omega
          clear hcw
          go_wp2
          go_ret2
          exact ⟨_, rfl, HO.out, HB.out⟩
end Go.Proofs.Ythoiamaomhggiaa
