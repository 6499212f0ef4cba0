/- The contract of Decode of the program. -/
import Derived.Test.YtfipkljefmfhmaaEncodeP
import Derived.Test.YtfipkljefmfhmaaPacketPlain
namespace Go.Proofs.Ytfipkljefmfhmaa
open Go.RowKit
set_option linter.unusedVariables false
set_option linter.unusedSimpArgs false

def decPF (k : Bool) (l : List UInt8) : Int :=
  if begF l 1 ≠ 0 then begF l 1 else if (readP k l).f ≠ 0 then (readP k l).f else if 1 < (readP k l).flags then 3
  else chkP (readP k l).src (readP k l).pri (readP k l).seq (readP k l).uni (readP k l).syn (readP k l).name ((readP k l).flags == 1) (readP k l).slots.length
abbrev zpkV : Value := .agg #[.int .i64 0, .string ⟨#[]⟩, .int .i64 0, .int .i64 0, .int .i64 0, .int .i64 0, .bool false, .slice none 0 0]
/-- what Decode gives -/
def DecPP (k : Bool) (l : List UInt8) (w : World) (e : Ending) (w' : World) : Prop :=
  Below w.heap.size w w' ∧ ((decPF k l ≠ 0 ∧ e = .returned (.tuple #[zpkV, .int .i64 (decPF k l)])) ∨
    (decPF k l = 0 ∧ ∃ sl, ByS w'.heap.size w' sl (readP k l).slots ∧
      e = .returned (.tuple #[pkV (readP k l).src ⟨(readP k l).name.toArray⟩ (readP k l).pri (readP k l).seq (readP k l).uni (readP k l).syn ((readP k l).flags == 1) sl, .int .i64 0])))

theorem blk_cells {w : World} {b : Nat} {c0 c1 c2 c3 c4 c5 c6 c7 : Value} {T : Nat} (h : w.heap[b]? = some (.cells #[c0, c1, c2, c3, c4, c5, c6, c7] T (0, 0))) :
    (w.cell? ⟨b, 0, none⟩ = some c0 ∧ w.cell? ⟨b, 1, none⟩ = some c1 ∧ w.cell? ⟨b, 2, none⟩ = some c2 ∧ w.cell? ⟨b, 3, none⟩ = some c3 ∧ w.cell? ⟨b, 4, none⟩ = some c4 ∧ w.cell? ⟨b, 5, none⟩ = some c5 ∧ w.cell? ⟨b, 6, none⟩ = some c6 ∧ w.cell? ⟨b, 7, none⟩ = some c7) ∧
    (∀ i, w.frozen? ⟨b, i, none⟩ = false) :=
  ⟨⟨cell_of_row w b 0 _ _ (0, 0) h, cell_of_row w b 1 _ _ (0, 0) h, cell_of_row w b 2 _ _ (0, 0) h, cell_of_row w b 3 _ _ (0, 0) h, cell_of_row w b 4 _ _ (0, 0) h, cell_of_row w b 5 _ _ (0, 0) h, cell_of_row w b 6 _ _ (0, 0) h, cell_of_row w b 7 _ _ (0, 0) h⟩,
   fun i => frozen_of_row w b i _ _ h⟩
abbrev zcs : Array Value := #[.int .i64 0, .string ⟨#[]⟩, .int .i64 0, .int .i64 0, .int .i64 0, .int .i64 0, .bool false, .slice none 0 0]

theorem name_size (name : List UInt8) (h : name.length ≤ 255) : (⟨name.toArray⟩ : ByteArray).size ≤ maxLen := by
  have : (⟨name.toArray⟩ : ByteArray).size = name.length := by simp [ByteArray.size]
  unfold maxLen; omega
def whenV (b : Bool) (f : Int) : Int := if b then f else 0
theorem when_V (b : Bool) (f : Int) (w : World) :
    Calls Try.prog 73 #[.bool b, .int .i64 f] w fun e w' => e = .returned (.int .i64 (whenV b f)) ∧ w = w' := when_B b f w
theorem own_set {w : World} {base e size n b : Nat} {v : Value} {xs : List Value} (h : w.ownsRow base e size v n xs) (i : Nat) (u : Value) (hb : b < base) : (w.setCell ⟨b, i, none⟩ u).ownsRow base e size v n xs :=
  h.kept (grown_set w b i u) (by
    rcases hv : v.ownBlock with _ | k
    · exact .inl rfl
    · right; intro e; injection e with e; subst e; have := (h.lt _ hv).1; omega)
/-- the state of Decode: the reader, the bytes, the box of the result -/
def DSt (T B : Nat) (w : World) (v : Value) (l : List UInt8) (rb : Nat) (s : RSt) (wi : World) : Prop :=
  Rd T B wi rb s ∧ ByS B wi v l ∧ wi.heap[w.heap.size]? = some (.cells zcs 35 (0, 0)) ∧ Below w.heap.size w wi ∧ w.heap.size < rb ∧ rb < wi.heap.size ∧ B ≤ w.heap.size
theorem Rd.lt {T B : Nat} {w : World} {rb : Nat} {s : RSt} (h : Rd T B w rb s) : rb < w.heap.size := by obtain ⟨v, hb, _⟩ := h; exact block_lt hb
theorem DSt.next {T B : Nat} {w : World} {v : Value} {l : List UInt8} {rb : Nat} {s s' : RSt} {wi wj : World} (h : DSt T B w v l rb s wi) (hr : Rd T B wj rb s') (hg : wi.grownBy wj (some rb)) : DSt T B w v l rb s' wj := by
  obtain ⟨h1, h2, h3, h4, h5, h6, h7⟩ := h
  have hw : w.heap.size < wi.heap.size := block_lt h3
  exact ⟨hr, h2.grown hg (by omega) (by omega), (hg.block _ hw (by intro e; injection e with e; omega)).trans h3, below_grown h4 hg (by omega) (by omega), h5, hr.lt, h7⟩
theorem DSt.alloc {T B : Nat} {w : World} {v : Value} {l : List UInt8} {rb : Nat} {s : RSt} {wi : World} (h : DSt T B w v l rb s wi) (o : Obj) : DSt T B w v l rb s (wi.alloc o) := by
  obtain ⟨⟨u, h1, h1'⟩, h2, h3, h4, h5, h6, h7⟩ := h
  have hw : w.heap.size < wi.heap.size := block_lt h3
  exact ⟨⟨u, (Below.heap_alloc wi o rb h6).trans h1, h1'.below ((Below.refl _ wi).alloc (by omega) o)⟩, h2.below ((Below.refl _ wi).alloc (by omega) o), (Below.heap_alloc wi o _ hw).trans h3, h4.alloc (by omega) o, h5, by simp; omega, h7⟩
theorem DSt.setCell {T B : Nat} {w : World} {v : Value} {l : List UInt8} {rb : Nat} {s : RSt} {wi : World} (h : DSt T B w v l rb s wi) (pb i : Nat) (u : Value) (hp : pb ≠ rb) (hp2 : w.heap.size < pb) : DSt T B w v l rb s (wi.setCell ⟨pb, i, none⟩ u) := by
  obtain ⟨⟨u', h1, h1'⟩, h2, h3, h4, h5, h6, h7⟩ := h
  have hc : ∀ b o, b < B → (wi.setCell ⟨pb, i, none⟩ u).cell? ⟨b, o, none⟩ = wi.cell? ⟨b, o, none⟩ := fun b o hb => World.cell?_of_block (Below.heap_setCell wi ⟨pb, i, none⟩ u b (by simp; omega))
  exact ⟨⟨u', (Below.heap_setCell wi _ u rb (by simp; omega)).trans h1, h1'.keep hc⟩, h2.keep hc, (Below.heap_setCell wi _ u _ (by simp; omega)).trans h3, h4.setCell (by simp; omega) u, h5, by simpa using h6, h7⟩

theorem DSt.below {T B : Nat} {w : World} {v : Value} {l : List UInt8} {rb : Nat} {s : RSt} {wi wj : World} (h : DSt T B w v l rb s wi) (hb : Below wi.heap.size wi wj) : DSt T B w v l rb s wj := by
  obtain ⟨⟨u, h1, h1'⟩, h2, h3, h4, h5, h6, h7⟩ := h
  have hw : w.heap.size < wi.heap.size := block_lt h3
  have hs := hb.size
  exact ⟨⟨u, (hb.block rb h6).trans h1, h1'.below (hb.mono (by omega))⟩, h2.below (hb.mono (by omega)), (hb.block _ hw).trans h3, h4.trans (hb.mono (by omega)), h5, by omega, h7⟩
def EndD (T B : Nat) (k : Bool) (w : World) (v : Value) (l : List UInt8) (rb : Nat) (s : RSt) (wi : World) (e : Ending) (w' : World) : Prop :=
  e = .returned (.int .i64 (endF l (tkS k 2 s) (numB (tkB k 2 s)))) ∧ w'.heap[w.heap.size]? = some (.cells zcs 35 (0, 0)) ∧ Below w.heap.size w w' ∧ wi.grownBy w' (some rb)
theorem end_D {B : Nat} {w : World} {v : Value} {l : List UInt8} {rb : Nat} {s : RSt} {wi : World} (hl : 2 ≤ l.length) (h : DSt 169 B w v l rb s wi) :
    Calls Try.prog 62 #[.pointer (some ⟨rb, 0, none⟩), v] wi (EndD 169 B true w v l rb s wi) := by
  obtain ⟨h1, h2, h3, h4, h5, h6, h7⟩ := h
  have hw : w.heap.size < wi.heap.size := block_lt h3
  refine (end_any B rb v l s wi (by omega) h1 h2 hl).mono ?_
  rintro e w' ⟨rfl, hg⟩
  exact ⟨rfl, (hg.block _ hw (by intro e; injection e with e; omega)).trans h3, below_grown h4 hg (by omega) (by omega), hg⟩

def NumD (T B : Nat) (k : Bool) (w : World) (v : Value) (l : List UInt8) (rb : Nat) (s : RSt) (n : Nat) (wi : World) (e : Ending) (w' : World) : Prop :=
  e = .returned (.int .i64 (numB (tkB k n s))) ∧ DSt T B w v l rb (tkS k n s) w' ∧ wi.grownBy w' (some rb)
def TakeD (T B : Nat) (k : Bool) (w : World) (v : Value) (l : List UInt8) (rb : Nat) (s : RSt) (n : Nat) (wi : World) (e : Ending) (w' : World) : Prop :=
  ∃ u, e = .returned u ∧ ByS w'.heap.size w' u (tkB k n s) ∧ DSt T B w v l rb (tkS k n s) w' ∧ wi.grownBy w' (some rb)
theorem num_D {B : Nat} {w : World} {v : Value} {l : List UInt8} {rb : Nat} {s : RSt} {wi : World} (n : Nat) (hn : 1 ≤ n ∧ n ≤ 2) (h : DSt 169 B w v l rb s wi) :
    Calls Try.prog 60 #[.pointer (some ⟨rb, 0, none⟩), .int .i64 n] wi (NumD 169 B true w v l rb s n wi) := by
  refine (number_any B rb s n wi (by have := h.2.2.2.2.1; have := h.2.2.2.2.2.2; omega) hn h.1).mono ?_
  rintro e w' ⟨rfl, hr, hg⟩
  exact ⟨rfl, h.next hr hg, hg⟩
theorem take_D {B : Nat} {w : World} {v : Value} {l : List UInt8} {rb : Nat} {s : RSt} {wi : World} (n : Nat) (hn : n ≤ 65535) (h : DSt 169 B w v l rb s wi) :
    Calls Try.prog 71 #[.pointer (some ⟨rb, 0, none⟩), .int .i64 n] wi (TakeD 169 B true w v l rb s n wi) := by
  refine (take_any B rb s n wi (by have := h.2.2.2.2.1; have := h.2.2.2.2.2.2; omega) hn h.1).mono ?_
  rintro e w' ⟨u, rfl, hu, hr, hg⟩
  exact ⟨u, rfl, hu, h.next hr hg, hg⟩

set_option maxHeartbeats 4000000 in
set_option maxRecDepth 100000 in
theorem decodeP_any (B : Nat) (v : Value) (l : List UInt8) (w : World) (hB : B ≤ w.heap.size) (h : ByS B w v l) :
    Calls Try.prog 24 #[v] w (DecPP true l w) := by
  have BG := Lib.hid (begin_any B v l 1 (w.alloc (.cells zcs 35)) (by simp; omega) (by omega) (h.below ((Below.refl _ w).alloc hB _)))
  have HV := Lib.hid h
  clear h
  go_enter Try.func24, Try.ntmps24
  go_wp2_with fail
  refine BG.out.mono ?_
  rintro e w1 ⟨hb1, h | h⟩
  · obtain ⟨hn, rfl⟩ := h
    have HF := Lib.hid (show decPF true l = begF l 1 from if_pos hn)
    have d : (begF l 1 != 0) = true := by rw [bne_iff_ne]; exact hn
    have HN := Lib.hid (show decPF true l ≠ 0 by rw [HF.out]; exact hn)
    have hrb := (hb1.block w.heap.size (by simp)).trans (heap_alloc_new w _)
    have HB := Lib.hid (((Below.refl _ w).alloc (Nat.le_refl _) _).trans (hb1.mono (by simp)))
    have hsz := hb1.size
    simp only [World.size_alloc] at hsz
    obtain ⟨⟨k0, k1, k2, k3, k4, k5, k6, k7⟩, kf⟩ := blk_cells hrb
    clear hn hb1 BG hrb
    generalize begF l 1 = f at *
    go_wp2
    refine bodyPost_ret (v := .tuple #[zpkV, .int .i64 f]) (by simp [results, Try.results24, go_sem, k0, k1, k2, k3, k4, k5, k6, k7, kf, hsz]) rfl ⟨?_, .inl ⟨HN.out, by rw [HF.out]⟩⟩
    iterate 8 refine Below.setCell ?_ (by exact Nat.le_refl _) _
    exact HB.out
  · obtain ⟨hb0, rb, hrb, rfl, hr⟩ := h
    simp only [World.size_alloc] at hrb
    have hD := Lib.hid (show DSt 169 B w v l rb (l.drop 5, false) w1 from ⟨hr, (HV.out.below ((Below.refl _ w).alloc hB _)).below (hb1.mono (by simp; omega)), (hb1.block w.heap.size (by simp)).trans (heap_alloc_new w _),
      ((Below.refl _ w).alloc (Nat.le_refl _) _).trans (hb1.mono (by simp)), by omega, hr.lt, hB⟩)
    have HB0 := Lib.hid hb0
    have hl5 := begF_len hb0
    clear hb1 hr hb0 BG HV
    go_wp2_with fail
    refine (num_D 2 (by omega) hD.out).mono ?_
    rintro e w2 ⟨rfl, hD2, -⟩
    have HD2 := Lib.hid (show DSt 169 B w v l rb (rd1 true l) w2 from hD2)
    clear hD2 hD
    go_wp2_with fail
    refine (num_D 1 (by omega) HD2.out).mono ?_
    rintro e w3 ⟨rfl, hD3, -⟩
    have HD3 := Lib.hid (show DSt 169 B w v l rb (rd2 true l) w3 from hD3)
    clear hD3 HD2
    go_wp2_with fail
    refine (num_D 1 (by omega) HD3.out).mono ?_
    rintro e w4 ⟨rfl, hD4, -⟩
    have HD4 := Lib.hid (show DSt 169 B w v l rb (rd3 true l) w4 from hD4)
    clear hD4 HD3
    go_wp2_with fail
    refine (num_D 1 (by omega) HD4.out).mono ?_
    rintro e w5 ⟨rfl, hD5, -⟩
    have HD5 := Lib.hid (show DSt 169 B w v l rb (rd4 true l) w5 from hD5)
    clear hD5 HD4
    go_wp2_with fail
    refine (num_D 2 (by omega) HD5.out).mono ?_
    rintro e w6 ⟨rfl, hD6, -⟩
    have HD6 := Lib.hid (show DSt 169 B w v l rb (rd5 true l) w6 from hD6)
    clear hD6 HD5
    have b1 : numB (tkB true 2 (l.drop 5, false)) ≤ 65535 := numB_tk_lt _ _
    have b2' : numB (tkB true 1 (rd1 true l)) ≤ 255 := numB_one_lt _ (by rw [tkB_len]; omega)
    have b3 : numB (tkB true 1 (rd2 true l)) ≤ 255 := numB_one_lt _ (by rw [tkB_len]; omega)
    have b4 : numB (tkB true 1 (rd3 true l)) ≤ 255 := numB_one_lt _ (by rw [tkB_len]; omega)
    have b5 : numB (tkB true 2 (rd4 true l)) ≤ 65535 := numB_tk_lt _ _
    have HR := Lib.hid (show readP true l = ⟨numB (tkB true 2 (l.drop 5, false)), numB (tkB true 1 (rd1 true l)), numB (tkB true 1 (rd2 true l)), numB (tkB true 1 (rd3 true l)), numB (tkB true 2 (rd4 true l)), numB (tkB true 1 (rd5 true l)),
       tkB true (nmL true l) (rd7 true l), tkB true (slL true l) (rd9 true l), endF l (tkS true 2 (rd10 true l)) (numB (tkB true 2 (rd10 true l)))⟩ from rfl)
    generalize numB (tkB true 2 (l.drop 5, false)) = src at *
    generalize numB (tkB true 1 (rd1 true l)) = pri at *
    generalize numB (tkB true 1 (rd2 true l)) = seq at *
    generalize numB (tkB true 1 (rd3 true l)) = uni at *
    generalize numB (tkB true 2 (rd4 true l)) = syn at *
    have HP6 := Lib.hid (heap_alloc_new w6 (.cells #[.int .i64 (src : Int), .string ⟨#[]⟩, .int .i64 (pri : Int), .int .i64 (seq : Int), .int .i64 (uni : Int), .int .i64 (syn : Int), .bool false, .slice none 0 0] 35))
    have hpr : w6.heap.size ≠ rb := by have := HD6.out.2.2.2.2.2.1; omega
    have hpw : w.heap.size < w6.heap.size := block_lt HD6.out.2.2.1
    generalize hpb : w6.heap.size = pb at *
    have HPB := Lib.hid hpb
    clear hpb
    go_wp2_with fail
    rw [HPB.out]
    refine (num_D 1 (by omega) (HD6.out.alloc _)).mono ?_
    rintro e w7 ⟨rfl, hD7, hg7⟩
    have HD7 := Lib.hid (show DSt 169 B w v l rb (rd6 true l) w7 from hD7)
    have HP7 := Lib.hid ((hg7.block pb (by simp; have := HPB.out; omega) (by intro e; injection e with e; exact hpr e)).trans HP6.out)
    have b6 : numB (tkB true 1 (rd5 true l)) ≤ 255 := numB_one_lt _ (by rw [tkB_len]; omega)
    generalize numB (tkB true 1 (rd5 true l)) = flags at *
    clear hD7 hg7 HD6 HP6
    go_wp2_with fail
    refine (num_D 1 (by omega) HD7.out).mono ?_
    rintro e w8 ⟨rfl, hD8, hg8⟩
    have HD8 := Lib.hid (show DSt 169 B w v l rb (rd7 true l) w8 from hD8)
    have HP8 := Lib.hid ((hg8.block pb (block_lt HP7.out) (by intro e; injection e with e; exact hpr e)).trans HP7.out)
    have b7 : nmL true l ≤ 255 := numB_one_lt _ (by rw [tkB_len]; omega)
    have HNM := Lib.hid (show numB (tkB true 1 (rd6 true l)) = nmL true l from rfl)
    rw [HNM.out]
    clear hD8 hg8 HD7 HP7 HNM
    go_wp2_with fail
    refine (take_D (nmL true l) (by omega) HD8.out).mono ?_
    rintro e w9 ⟨u9, rfl, hu9, hD9, hg9⟩
    have HD9 := Lib.hid (show DSt 169 B w v l rb (rd8 true l) w9 from hD9)
    have HP9 := Lib.hid ((hg9.block pb (block_lt HP8.out) (by intro e; injection e with e; exact hpr e)).trans HP8.out)
    have c9 := conv_bytes hu9
    have hnl : (tkB true (nmL true l) (rd7 true l)).length = nmL true l := tkB_len _ _ _
    have HNL := Lib.hid hnl
    generalize tkB true (nmL true l) (rd7 true l) = name at *
    have HD9s := Lib.hid (HD9.out.setCell pb 1 (.string ⟨name.toArray⟩) hpr hpw)
    have HP9s := Lib.hid (set_block (i := 1) (.string ⟨name.toArray⟩) HP9.out)
    obtain ⟨⟨-, k1, -, -, -, -, -, -⟩, kf⟩ := blk_cells HP9.out
    have kf1 := kf 1
    clear hD9 hg9 HD8 HP8 hu9 kf hnl
    go_wp2_with fail
    refine (num_D 2 (by omega) HD9s.out).mono ?_
    rintro e w10 ⟨rfl, hD10, hg10⟩
    have HD10 := Lib.hid (show DSt 169 B w v l rb (rd9 true l) w10 from hD10)
    have HP10 := Lib.hid ((hg10.block pb (by have := block_lt HP9.out; simpa using this) (by intro e; injection e with e; exact hpr e)).trans HP9s.out)
    have b8 : slL true l ≤ 65535 := numB_tk_lt _ _
    have HSM := Lib.hid (show numB (tkB true 2 (rd8 true l)) = slL true l from rfl)
    rw [HSM.out]
    clear hD10 hg10 HD9 HD9s HP9 HP9s HSM k1 kf1 c9
    go_wp2_with fail
    refine (take_D (slL true l) b8 HD10.out).mono ?_
    rintro e w11 ⟨u11, rfl, hu11, hD11, hg11⟩
    have HD11 := Lib.hid (show DSt 169 B w v l rb (rd10 true l) w11 from hD11)
    have HP11 := Lib.hid ((hg11.block pb (block_lt HP10.out) (by intro e; injection e with e; exact hpr e)).trans HP10.out)
    have hsl : (tkB true (slL true l) (rd9 true l)).length = slL true l := tkB_len _ _ _
    have CL := Lib.hid (bClone_any w11.heap.size u11 _ w11 (Nat.le_refl _) (by rw [hsl]; omega) hu11)
    have HSL := Lib.hid hsl
    have hsl9 : (tkB true (slL true l) (rd9 true l)).length ≤ 65535 := by omega
    generalize tkB true (slL true l) (rd9 true l) = slots at *
    clear hD11 hg11 HD10 HP10 hu11 hsl
    go_wp2_with fail
    refine CL.out.mono ?_
    rintro e w12 ⟨u12, rfl, hu12, hb12⟩
    have HD12 := Lib.hid (HD11.out.below hb12)
    have HP12 := Lib.hid ((hb12.block pb (block_lt HP11.out)).trans HP11.out)
    have HO12 := Lib.hid hu12
    obtain ⟨so, scap, rfl, s1, s2, hx⟩ := ByS.of_own hu12
    clear hx hu12
    have hp11 := block_lt HP11.out
    have HD11r := Lib.hid (show rb < w11.heap.size from HD11.out.2.2.2.2.2.1)
    have HD12s := Lib.hid (HD12.out.setCell pb 7 (.slice so slots.length scap) hpr hpw)
    have HP12s := Lib.hid (set_block (i := 7) (.slice so slots.length scap) HP12.out)
    have hs12 := hb12.size
    obtain ⟨⟨-, -, -, -, -, -, k6, k7⟩, kf⟩ := blk_cells HP12.out
    have kf6 := kf 6
    have kf7 := kf 7
    have hpl := block_lt HP12.out
    clear hb12 HD11 HP11 CL kf
    have d1 : ((flags : Int) == 1) = (flags == 1) := by
      by_cases h : flags = 1
      · subst h; rfl
      · rw [beq_eq_false_iff_ne.2 h, beq_eq_false_iff_ne]; omega
    have HRF := Lib.hid (show (readP true l).flags = flags by rw [HR.out])
    generalize hfb : (flags == 1) = fb at *
    have HFB := Lib.hid hfb
    clear hfb
    have HD13 := Lib.hid (HD12s.out.setCell pb 6 (.bool fb) hpr hpw)
    have HP13 := Lib.hid (set_block (i := 6) (.bool fb) HP12s.out)
    have EN := Lib.hid (end_D (by omega) HD13.out)
    have HD13l := Lib.hid (show rb < w11.heap.size from by have := HD11r.out; omega)
    unfold EndD at EN
    generalize endF l (tkS true 2 (rd10 true l)) (numB (tkB true 2 (rd10 true l))) = f at *
    have HOS := Lib.hid (HO12.out.kept (grown_trans (grown_set w12 pb 7 (.slice so slots.length scap)) (grown_set _ pb 6 (.bool fb))) (by
      rcases hv : (Value.slice so slots.length scap).ownBlock with _ | k
      · exact .inl rfl
      · right; intro e; injection e with e; subst e; have := (HO12.out.lt _ hv).1; omega))
    clear HO12 HD12 HP12 HD12s HP12s HD13
    go_wp2_with fail
    refine EN.out.mono ?_
    rintro e w14 ⟨rfl, hr14, hb14, hg14⟩
    have HP14 := Lib.hid ((hg14.block pb (by have := block_lt HP13.out; exact this) (by intro e; injection e with e; exact hpr e)).trans HP13.out)
    have hrl := HD13l.out
    have HO14 := HOS.out.kept hg14 (by
      rcases hv : (Value.slice so slots.length scap).ownBlock with _ | k
      · exact .inl rfl
      · right; intro e; injection e with e; subst e; have := (HOS.out.lt _ hv).1; omega)
    have HS14 := Lib.hid HO14
    have HP := Lib.hid (show w14.heap[pb]? = some (.cells #[.int .i64 (src : Int), .string ⟨name.toArray⟩, .int .i64 (pri : Int), .int .i64 (seq : Int), .int .i64 (uni : Int), .int .i64 (syn : Int), .bool fb, .slice so slots.length scap] 35 (0, 0)) from HP14.out)
    have HR14 := Lib.hid hr14
    have HB14 := Lib.hid hb14
    have hz14 := block_lt hr14
    have hz14b := block_lt HP.out
    clear hr14 hb14 hg14 HP14 HP13 HO14 HOS EN k6 k7 kf6 kf7 hrl HD13l
    have d2 : decide ((1 : Int) < (flags : Int)) = decide (1 < flags) := by
      by_cases h : 1 < flags
      · rw [decide_eq_true h]; simp; omega
      · rw [decide_eq_false h]; simp; omega
    generalize hcb : decide (1 < flags) = cb at *
    have HCB := Lib.hid hcb
    clear hcb
    have hnm : name.length ≤ 255 := by have := HNL.out; omega
    have CK := Lib.hid (fun W => check_any src pri seq uni syn ⟨name.toArray⟩ fb so slots.length scap W (name_size name hnm) (by omega))
    have HDF : Hid (decPF true l = if fst2 f (whenV cb 3) ≠ 0 then fst2 f (whenV cb 3) else chkP src pri seq uni syn name fb slots.length) := by
      refine Lib.hid ?_
      unfold decPF fst2
      rw [HB0.out, HR.out]
      simp only [ne_eq, not_true_eq_false, if_false]
      rw [HFB.out]
      by_cases hf : f = 0
      · rw [if_neg (by simpa using hf), if_pos hf]
        have hcc := HCB.out
        cases cb with
        | true => rw [if_pos (of_decide_eq_true hcc)]; rfl
        | false => rw [if_neg (of_decide_eq_false hcc)]; rfl
      · rw [if_pos hf, if_neg hf, if_pos hf]
    have hdt : (⟨name.toArray⟩ : ByteArray).data.toList = name := by simp
    simp only [hdt] at CK
    clear hdt
    go_wp2_with (first | (go_at_call 73; refine (when_V cb 3 _).mono ?_; rintro e w' ⟨rfl, rfl⟩) | (go_at_call 61; fail))
    have HT := Lib.hid (first2c w14.heap.size f (whenV cb 3) (w14.alloc (.cells #[.int .i64 f, .int .i64 (whenV cb 3)] 25)) (by simp) (by simp))
    generalize hz : fst2 f (whenV cb 3) = z at *
    clear hz
    refine HT.out.mono ?_
    rintro e w15 ⟨rfl, rfl⟩
    have hr15 := (Below.heap_alloc w14 (.cells #[.int .i64 f, .int .i64 (whenV cb 3)] 25) _ hz14).trans HR14.out
    have hp15 := (Below.heap_alloc w14 (.cells #[.int .i64 f, .int .i64 (whenV cb 3)] 25) _ hz14b).trans HP.out
    have hb15 := HB14.out.alloc (by omega) (.cells #[.int .i64 f, .int .i64 (whenV cb 3)] 25)
    have hs15 := HS14.out.alloc (.cells #[.int .i64 f, .int .i64 (whenV cb 3)] 25)
    have hz15 : w14.heap.size ≤ (w14.alloc (.cells #[.int .i64 f, .int .i64 (whenV cb 3)] 25)).heap.size := by simp
    generalize hW : w14.alloc (.cells #[.int .i64 f, .int .i64 (whenV cb 3)] 25) = w15 at *
    clear hW HT
    obtain ⟨⟨j0, j1, j2, j3, j4, j5, j6, j7⟩, jf⟩ := blk_cells hr15
    have HB15 := Lib.hid hb15
    have HS15 := Lib.hid hs15
    have hz15' : w.heap.size < w15.heap.size := block_lt hr15
    have HR15 := Lib.hid hr15
    clear hb15 hs15 hr15
    by_cases hz0 : z = 0
    · subst hz0
      have HDC := Lib.hid (show decPF true l = chkP src pri seq uni syn name fb slots.length by rw [HDF.out]; simp)
      obtain ⟨⟨i0, i1, i2, i3, i4, i5, i6, i7⟩, _⟩ := blk_cells hp15
      have hpb15 : pb < w15.heap.size := block_lt hp15
      have HP15 := Lib.hid hp15
      clear hp15 HDF
      generalize chkP src pri seq uni syn name fb slots.length = ch at *
      go_wp2_with fail
      clear i0 i1 i2 i3 i4 i5 i6 i7 j0 j1 j2 j3 j4 j5 j6 j7 jf
      refine (CK.out _).mono ?_
      have hr16 := (Below.heap_alloc w15 (.cells #[.int .i64 (src : Int), .string ⟨name.toArray⟩, .int .i64 (pri : Int), .int .i64 (seq : Int), .int .i64 (uni : Int), .int .i64 (syn : Int), .bool fb, .slice so slots.length scap] 35) _ hz15').trans HR15.out
      have hp16 := (Below.heap_alloc w15 (.cells #[.int .i64 (src : Int), .string ⟨name.toArray⟩, .int .i64 (pri : Int), .int .i64 (seq : Int), .int .i64 (uni : Int), .int .i64 (syn : Int), .bool fb, .slice so slots.length scap] 35) _ hpb15).trans HP15.out
      have hb16 := HB15.out.alloc (by omega) (.cells #[.int .i64 (src : Int), .string ⟨name.toArray⟩, .int .i64 (pri : Int), .int .i64 (seq : Int), .int .i64 (uni : Int), .int .i64 (syn : Int), .bool fb, .slice so slots.length scap] 35)
      have hs16 := HS15.out.alloc (.cells #[.int .i64 (src : Int), .string ⟨name.toArray⟩, .int .i64 (pri : Int), .int .i64 (seq : Int), .int .i64 (uni : Int), .int .i64 (syn : Int), .bool fb, .slice so slots.length scap] 35)
      rintro e w16 ⟨rfl, hW⟩
      have hW' : w15.alloc (.cells #[.int .i64 (src : Int), .string ⟨name.toArray⟩, .int .i64 (pri : Int), .int .i64 (seq : Int), .int .i64 (uni : Int), .int .i64 (syn : Int), .bool fb, .slice so slots.length scap] 35) = w16 := hW
      rw [hW'] at hr16 hp16 hb16 hs16
      clear hW hW' CK
      obtain ⟨⟨i0, i1, i2, i3, i4, i5, i6, i7⟩, _⟩ := blk_cells hp16
      obtain ⟨⟨j0, j1, j2, j3, j4, j5, j6, j7⟩, jf⟩ := blk_cells hr16
      have hz16 := block_lt hr16
      have HB16 := Lib.hid hb16
      have HS16 := Lib.hid hs16
      clear hr16 hp16 hb16 hs16 HB15 HS15 HR15 HP15 hpb15
      by_cases hc0 : ch = 0
      · subst hc0
        go_wp2
        refine bodyPost_ret (v := .tuple #[pkV src ⟨name.toArray⟩ pri seq uni syn fb (.slice so slots.length scap), .int .i64 0]) (by simp [results, Try.results24, go_sem, World.cell?_alloc_past, j0, j1, j2, j3, j4, j5, j6, j7, jf, hz16]) rfl ⟨?_, .inr ⟨HDC.out, .slice so slots.length scap, ?_, ?_⟩⟩
        · iterate 8 refine Below.setCell ?_ (by exact Nat.le_refl _) _
          exact HB16.out
        · rw [show (readP true l).slots = slots by rw [HR.out]]
          refine ByS.of_own (base := w11.heap.size) (e := 5) (n := slots.length) ?_
          iterate 8 refine own_set ?_ _ _ (by omega)
          exact HS16.out
        · rw [HR.out, HFB.out]
      · have HF := Lib.hid HDC.out
        have HN := Lib.hid (show decPF true l ≠ 0 by rw [HDC.out]; exact hc0)
        have d : (ch != 0) = true := by rw [bne_iff_ne]; exact hc0
        clear hc0
        go_wp2
        refine bodyPost_ret (v := .tuple #[zpkV, .int .i64 ch]) (by simp [results, Try.results24, go_sem, World.cell?_alloc_past, j0, j1, j2, j3, j4, j5, j6, j7, jf, hz16]) rfl ⟨?_, .inl ⟨HN.out, by rw [HF.out]⟩⟩
        iterate 8 refine Below.setCell ?_ (by exact Nat.le_refl _) _
        exact HB16.out
    · have HF := Lib.hid (show decPF true l = z by rw [HDF.out, if_pos hz0])
      have HN := Lib.hid (show decPF true l ≠ 0 by rw [HF.out]; exact hz0)
      have d : (z != 0) = true := by rw [bne_iff_ne]; exact hz0
      clear hz0 HDF hp15 CK
      go_wp2
      refine bodyPost_ret (v := .tuple #[zpkV, .int .i64 z]) (by simp [results, Try.results24, go_sem, j0, j1, j2, j3, j4, j5, j6, j7, jf, hz15]) rfl ⟨?_, .inl ⟨HN.out, by rw [HF.out]⟩⟩
      iterate 8 refine Below.setCell ?_ (by exact Nat.le_refl _) _
      exact HB15.out
end Go.Proofs.Ytfipkljefmfhmaa
