/- The contract of encode of the program: the bytes of a right packet. -/
import Derived.Test.YtfipkljefmfhmaaApp
import Derived.Deep.RegionHeld3
import Derived.Deep.DeepCutAuto
import Derived.Deep.DrawnRows
namespace Go.Proofs.Ytfipkljefmfhmaa
open Go.RowKit
set_option linter.unusedVariables false
set_option linter.unusedSimpArgs false

def x1 (src : Nat) : List UInt8 := headB ++ [1]
def mid3 (pri seq uni : Nat) : List UInt8 := [UInt8.ofNat pri, UInt8.ofNat seq, UInt8.ofNat uni]
def flg (en : Bool) (n : Nat) : List UInt8 := [if en then 1 else 0, UInt8.ofNat n]
/-- the bytes of a packet ahead of their sum -/
def bodyP (src pri seq uni syn : Nat) (en : Bool) (nm m : List UInt8) : List UInt8 :=
  headB ++ [1] ++ b2 src ++ mid3 pri seq uni ++ b2 syn ++ flg en nm.length ++ nm ++ b2 m.length ++ m
def encP (src pri seq uni syn : Nat) (en : Bool) (nm m : List UInt8) : List UInt8 := summed (bodyP src pri seq uni syn en nm m)

/-- a row of the call's own, behind the box of the packet -/
def OwnE (W0 : World) (l : List UInt8) (v : Value) (w : World) : Prop := w.ownsRow W0.heap.size 5 1 v l.length (bcells l) ∧ Below W0.heap.size W0 w

theorem conv1 (w : World) (o : Obj) (C : Array Value) (n c : Nat) : (convert 22 22 (.slice (some ⟨w.heap.size + 1, 0, none⟩) n c)).run Try.prog ((w.alloc o).alloc (.cells C 5)) = .ok (.slice (some ⟨w.heap.size + 1, 0, none⟩) n c) ((w.alloc o).alloc (.cells C 5 (C.size, C.size + 1))) := by
  have := Lib.run_convert_bytes_const (P := Try.prog) (w.alloc o) 22 5 C n c Try.underlying22 Try.underlying5
  rwa [World.size_alloc] at this

theorem lit_block {w : World} {b n : Nat} {cs : Array Value} {fz : Nat × Nat} {x : List UInt8} (h : w.heap[b]? = some (.cells cs 5 fz)) (hc : cs.toList = bcells x) (hn : x.length = n) (h9 : n ≤ 100000) :
    ByS (b + 1) w (.slice (some ⟨b, 0, none⟩) n n) x := by
  subst hn
  refine ⟨_, x.length, rfl, Nat.le_refl _, by omega, fun _ => ⟨b, 0, rfl, by omega, fun i hi => ?_⟩⟩
  rw [cell_of_row _ b (0 + i) _ _ _ h, Nat.zero_add, ← Array.getElem?_toList, hc]
  simp [bcells, List.getElem?_eq_getElem hi]
theorem OwnE.drew {W0 w : World} {l : List UInt8} {v : Value} (h : OwnE W0 l v w) : OwnE W0 l v w.drew := ⟨h.1, h.2.drew⟩
theorem OwnE.alloc {W0 w : World} {l : List UInt8} {v : Value} (h : OwnE W0 l v w) (o : Obj) : OwnE W0 l v (w.alloc o) := ⟨h.1.alloc o, h.2.alloc h.2.size o⟩
theorem OwnE.grown {W0 w w' : World} {l l' : List UInt8} {v v' : Value} (h : OwnE W0 l v w) (ho : w'.ownsRow W0.heap.size 5 1 v' l'.length (bcells l')) (hg : w.grownBy w' v.ownBlock) : OwnE W0 l' v' w' :=
  ⟨ho, below_own h.2 h.1 hg (Nat.le_refl _) h.2.size⟩
theorem OwnE.lt {W0 w : World} {l : List UInt8} {v : Value} (h : OwnE W0 l v w) : ∀ k, v.ownBlock = some k → k < w.heap.size := fun k hk => (h.1.lt k hk).2
def TwoE (W0 : World) (l : List UInt8) (n : Nat) (v : Value) (w : World) (e : Ending) (w' : World) : Prop := ∃ v', e = .returned v' ∧ OwnE W0 (l ++ b2 n) v' w' ∧ w.grownBy w' v.ownBlock
theorem two_E (W0 : World) (l : List UInt8) (n : Nat) (v : Value) (w : World) (hn : n ≤ 65535) (hl : l.length ≤ 100000) (h : OwnE W0 l v w) :
    Calls Try.prog 56 #[v, .int .i64 n] w (TwoE W0 l n v w) := by
  refine (two_append W0.heap.size v l n w hn hl h.2.size h.1).mono ?_
  rintro e w' ⟨v', rfl, ho, hg⟩
  exact ⟨v', rfl, h.grown (by rw [len_b2]; exact ho) hg, hg⟩
theorem step_E {W0 w : World} {ops : Array Oper} {o : Oper} {a : Act} {K : Act → World → Prop} {Q : Exit → Act → World → Prop} {E : Prop} (hgd : o.guard = none) (s x : Operand)
    (hop : o.op = .call { callee := .builtin .append, args := #[s, x], argTypes := #[22, 22] }) (hty : o.type = 22)
    (B : Nat) (v u : Value) (l m : List UInt8) (hs : a.eval s = v) (hx : a.eval x = u) (ho : OwnE W0 l v w) (hsrc : ByS B w u m) (hl : l.length + m.length ≤ 100000)
    (h : ∀ v' w', OwnE W0 (l ++ m) v' w' → K (a.put o.dst v') w') : if Region.wanted o (yielded ops a.tmps) = true then Oper.wp Try.prog o a w K Q else E :=
  step_app hgd s x hop hty B W0.heap.size v u l m hs hx ho.1 hsrc hl ho.2.size fun v' w' h1 h2 => h v' w' (ho.grown h1 h2)
theorem wpList_E {W0 w : World} {ops : Array Oper} {rest : List Oper} {o : Oper} {a : Act} {Q : Exit → Act → World → Prop} (hgd : o.guard = none) (s x : Operand)
    (hop : o.op = .call { callee := .builtin .append, args := #[s, x], argTypes := #[22, 22] }) (hty : o.type = 22)
    (B : Nat) (v u : Value) (l m : List UInt8) (hs : a.eval s = v) (hx : a.eval x = u) (ho : OwnE W0 l v w) (hsrc : ByS B w u m) (hl : l.length + m.length ≤ 100000)
    (h : ∀ v' w', OwnE W0 (l ++ m) v' w' → wpList Try.prog ops Q rest (a.put o.dst v') w') : wpList Try.prog ops Q (o :: rest) a w :=
  wpList_app hgd s x hop hty B W0.heap.size v u l m hs hx ho.1 hsrc hl ho.2.size fun v' w' h1 h2 => h v' w' (ho.grown h1 h2)
theorem wpList_Es {W0 w : World} {ops : Array Oper} {rest : List Oper} {o : Oper} {a : Act} {Q : Exit → Act → World → Prop} (hgd : o.guard = none) (s x : Operand)
    (hop : o.op = .call { callee := .builtin .append, args := #[s, x], argTypes := #[22, 9] })
    (v : Value) (l : List UInt8) (t : ByteArray) (hs : a.eval s = v) (hx : a.eval x = .string t) (ho : OwnE W0 l v w) (hl : l.length + t.size ≤ 100000)
    (h : ∀ v' w', OwnE W0 (l ++ t.data.toList) v' w' → wpList Try.prog ops Q rest (a.put o.dst v') w') : wpList Try.prog ops Q (o :: rest) a w := by
  obtain ⟨i0, hi, hz0, hz1, hz2⟩ := info_parts byte_info
  refine Lib.wpList_append_own_string w hgd s x _ _ hop W0.heap.size 5 i0 Try.underlying22 Try.underlying9 hi hz0 hz1 hz2 v l.length (bcells l) hs ho.1 t hx (by unfold maxLen; omega) (by omega) ho.2.size ?_
  intro v' w' h1 h2 _
  refine h v' w' (ho.grown ?_ h2)
  have e : bcells (l ++ t.data.toList) = bcells l ++ Lib.strCells t := by rw [bcells_append]; rfl
  rw [e, List.length_append]
  simpa using h1
theorem flg_cells (en : Bool) (n : Nat) (h : n ≤ 255) : (#[.int .u8 (if en then 1 else 0), .int .u8 (n : Int)] : Array Value).toList = bcells (flg en n) := by
  cases en <;> simp [bcells, flg, UInt8.toNat_ofNat'] <;> omega
theorem pk_T {w W : World} {c0 c1 c2 c3 c4 c5 c6 c7 : Value} {T : Nat} (h : Below (w.heap.size + 1) (w.alloc (.cells #[c0, c1, c2, c3, c4, c5, c6, c7] T)) W) :
    W.cell? ⟨w.heap.size, 1, none⟩ = some c1 ∧ W.cell? ⟨w.heap.size, 5, none⟩ = some c5 ∧ W.cell? ⟨w.heap.size, 6, none⟩ = some c6 ∧ W.cell? ⟨w.heap.size, 7, none⟩ = some c7 :=
  ⟨(h.cell (p := ⟨w.heap.size, 1, none⟩) (by simp)).trans (cell_of_row _ _ 1 _ _ _ (heap_alloc_new w _)), (h.cell (p := ⟨w.heap.size, 5, none⟩) (by simp)).trans (cell_of_row _ _ 5 _ _ _ (heap_alloc_new w _)),
   (h.cell (p := ⟨w.heap.size, 6, none⟩) (by simp)).trans (cell_of_row _ _ 6 _ _ _ (heap_alloc_new w _)), (h.cell (p := ⟨w.heap.size, 7, none⟩) (by simp)).trans (cell_of_row _ _ 7 _ _ _ (heap_alloc_new w _))⟩
theorem mid_cells (pri seq uni : Nat) (h2 : pri ≤ 255) (h3 : seq ≤ 255) (h4 : uni ≤ 255) : (#[.int .u8 (pri : Int), .int .u8 (seq : Int), .int .u8 (uni : Int)] : Array Value).toList = bcells (mid3 pri seq uni) := by
  simp [bcells, mid3, UInt8.toNat_ofNat']
  omega
/-- the cells of the packet's box -/
theorem pk_cell {w W : World} {cs : Array Value} {T : Nat} (h : Below (w.heap.size + 1) (w.alloc (.cells cs T)) W) (i : Nat) : W.cell? ⟨w.heap.size, i, none⟩ = cs[i]? :=
  (h.cell (p := ⟨w.heap.size, i, none⟩) (by simp)).trans (cell_of_row _ _ i _ _ _ (heap_alloc_new w _))

theorem pk_S {w W : World} {c0 c1 c2 c3 c4 c5 c6 c7 : Value} {T : Nat} (h : Below (w.heap.size + 1) (w.alloc (.cells #[c0, c1, c2, c3, c4, c5, c6, c7] T)) W) :
    W.cell? ⟨w.heap.size, 0, none⟩ = some c0 ∧ W.cell? ⟨w.heap.size, 2, none⟩ = some c2 ∧ W.cell? ⟨w.heap.size, 3, none⟩ = some c3 ∧ W.cell? ⟨w.heap.size, 4, none⟩ = some c4 :=
  ⟨pk_cell h 0, pk_cell h 2, pk_cell h 3, pk_cell h 4⟩

attribute [local go_sem ↓] Go.wp_at_zero Go.wp_at_succ

set_option maxHeartbeats 4000000 in
set_option maxRecDepth 100000 in
theorem encode_any (B : Nat) (src pri seq uni syn : Nat) (nm : ByteArray) (en : Bool) (sl : Value) (m : List UInt8) (w : World) (hB : B ≤ w.heap.size) (h1 : src ≤ 65535) (h2 : pri ≤ 255) (h3 : seq ≤ 255) (h4 : uni ≤ 255) (h5 : syn ≤ 65535)
    (hn : nm.size ≤ 255) (hm : m.length ≤ 512) (hs : ByS B w sl m) :
    Calls Try.prog 70 #[pkV src nm pri seq uni syn en sl] w (REncP (encP src pri seq uni syn en nm.data.toList m) w) := by
  have kc := conv1
  obtain ⟨i0, hi, hz0, hz1, hz2⟩ := info_parts byte_info
  have Hi := Lib.hid hi
  have Hz0 := Lib.hid hz0
  have Hz1 := Lib.hid hz1
  have Hz2 := Lib.hid hz2
  clear hi hz0 hz1 hz2
  obtain ⟨ao, cap, rfl, c1, c2, c3⟩ := id hs
  have HS := Lib.hid hs
  clear c3 hs
  go_enter Try.func70, Try.ntmps70
  go_upto_region 2 with (at_builtin; refine wpList_append_grows _ rfl _ _ 22 rfl 5 i0 (.int .u8 0) 1 1 Try.underlying22 Hi.out Hz0.out Hz1.out Hz2.out rfl (by omega) (some ⟨w.heap.size + 1, 0, none⟩) 4 4 (bcells headB) rfl (by intro h; cases h) rfl (by intro b hb; cases hb; exact head_cells _ _ _ (by simp)) ⟨w.heap.size + 1 + 1, 0, none⟩ 1 1 (bcells [1]) rfl rfl (one_cell _ 1 _ _ rfl (by simp)) (bcells_one _) (by omega) (by unfold maxLen; omega) (by omega) ?_; intro v1 w1 hown1 hgrow1)
  have hB0 : Below (w.heap.size + 1) (pkW w src nm pri seq uni syn en (.slice ao m.length cap)) w1 := (((Below.refl _ _).alloc (by simp) _).alloc (by simp) _).grown hgrow1 (by simp) (by intro k hk; cases hk)
  have ho1 : w1.ownsRow (w.heap.size + 1) 5 1 v1 (headB ++ [1]).length (bcells (headB ++ [1])) := by
    rw [← bcells_append] at hown1
    exact own_less hown1 (by simp)
  have hz0 : (pkW w src nm pri seq uni syn en (.slice ao m.length cap)).heap.size = w.heap.size + 1 := by simp
  have HE1 := Lib.hid (show OwnE (pkW w src nm pri seq uni syn en (.slice ao m.length cap)) (headB ++ [1]) v1 w1 from ⟨by rw [hz0]; exact ho1, by rw [hz0]; exact hB0⟩)
  have hb1 := hB0
  have hs1 := hB0.size
  have hlt1 := HE1.out.lt
  simp only [World.size_alloc] at hs1
  have HLT := Lib.hid hlt1
  have HZ0 := Lib.hid hz0
  clear hown1 hgrow1 hB0 ho1 hz0 hlt1
  have u2 : IntKind.u8.wrap (pri : Int) = (pri : Int) := IntWalk.u8_in _ (by omega)
  have u3 : IntKind.u8.wrap (seq : Int) = (seq : Int) := IntWalk.u8_in _ (by omega)
  have u4 : IntKind.u8.wrap (uni : Int) = (uni : Int) := IntWalk.u8_in _ (by omega)
  go_cut [3] (fun s3 wx => OwnE (pkW w src nm pri seq uni syn en (.slice ao m.length cap)) (headB ++ [1] ++ b2 src ++ mid3 pri seq uni) s3 wx)
  case first =>
    go_region_held3 (fun w' => w'.cell? ⟨w.heap.size, 0, none⟩ = some (.int .i64 (src : Int)) ∧ w'.cell? ⟨w.heap.size, 2, none⟩ = some (.int .i64 (pri : Int)) ∧ w'.cell? ⟨w.heap.size, 3, none⟩ = some (.int .i64 (seq : Int)) ∧ w'.cell? ⟨w.heap.size, 4, none⟩ = some (.int .i64 (uni : Int)))
      (exact pk_S (by go_grown))
      (first
        | (go_at_call 56; ((with_reducible refine (two_E (pkW w src nm pri seq uni syn en (.slice ao m.length cap)) (headB ++ [1]) src v1 _ h1 (by simp [headB]) (by first | exact HE1.out.drew | exact (HE1.out.alloc _).drew)).mono ?_); rintro e w2 ⟨v2, rfl, he2, hg2⟩; have HE2 := Lib.hid he2; have hb2 := he2.2; rw [HZ0.out] at hb2; have hsz2 := hb2.size; rw [HZ0.out] at hsz2; have HG2 := Lib.hid hg2; clear he2 hg2))
        | ((refine step_E (by rfl) _ _ (by rfl) (by rfl) _ v2 _ (headB ++ [1] ++ b2 src) (mid3 pri seq uni) (by rfl) (by rfl) (HE2.out.alloc _) (lit_block (n := 3) (heap_alloc_new _ _) (mid_cells pri seq uni h2 h3 h4) rfl (by omega)) (by simp [headB, b2, mid3]) ?_); intro v3 w3 he3; have hb3 := he3.2; rw [HZ0.out] at hb3; have HE3 := Lib.hid he3; clear he3)
        | ((refine step_E (by rfl) _ _ (by rfl) (by rfl) _ v2 _ (headB ++ [1] ++ b2 src) (mid3 pri seq uni) (by rfl) (by rfl) HE2.out (lit_block (n := 3) ((HG2.out.block _ (by simp) (by intro e; have := HLT.out _ e.symm; simp at this)).trans (heap_alloc_new _ _)) (mid_cells pri seq uni h2 h3 h4) rfl (by omega)) (by simp [headB, b2, mid3]) ?_); intro v3 w3 he3; have hb3 := he3.2; rw [HZ0.out] at hb3; have HE3 := Lib.hid he3; clear he3)
        | fail)
    all_goals go_wp2_with fail
    all_goals go_meet
    all_goals exact HE3.out
  case rest =>
    have hc5 := hcut.2
    rw [HZ0.out] at hc5
    obtain ⟨-, q5, -, -⟩ := pk_T hc5
    have HE3 := Lib.hid hcut
    have hs3 := hc5.size
    rw [HZ0.out] at hs3
    clear hcut HE1 HLT hb1 hs1
    go_wp2_with fail
    refine (two_E _ _ syn u3 _ h5 (by simp [headB, b2, mid3]) HE3.out).mono ?_
    rintro e w4 ⟨v4, rfl, he4, -⟩
    have hc6 := he4.2
    rw [HZ0.out] at hc6
    obtain ⟨q1, -, q6, -⟩ := pk_T hc6
    have HE4 := Lib.hid he4
    have hs4 := hc6.size
    rw [HZ0.out] at hs4
    clear he4 hc5 q5 HE3
    have hn9 : (nm.size : Int) ≤ 255 := by omega
    have e4 : (headB ++ [1] ++ b2 src ++ mid3 pri seq uni ++ b2 syn).length = 12 := by simp [headB, b2, mid3]
    generalize hx4 : headB ++ [1] ++ b2 src ++ mid3 pri seq uni ++ b2 syn = x4 at *
    have HX4 := Lib.hid hx4
    have he4 : x4.length ≤ 12 := by omega
    clear hx4 e4
    have FC := fun b => Lib.hid (flg_cells b nm.size hn)
    have hfl : ∀ b, (flg b nm.size).length = 2 := fun b => rfl
    have HSW := Lib.hid (fun W (h : Below (w.heap.size + 1) (pkW w src nm pri seq uni syn en (.slice ao m.length cap)) W) => (HS.out.below ((Below.refl _ w).alloc hB _)).below (h.mono (by omega : B ≤ w.heap.size + 1)))
    cases en with
    | true =>
      go_upto_region 9 with (first
        | (at_builtin; refine wpList_E rfl _ _ rfl rfl _ v4 _ x4 (flg true nm.size) rfl rfl (HE4.out.alloc _) (lit_block (n := 2) (heap_alloc_new _ _) (FC true).out rfl (by omega)) (by rw [hfl]; omega) ?_; intro v5 w5 he5; have HE5 := Lib.hid he5; have hc7 := he5.2; rw [HZ0.out] at hc7; obtain ⟨q1, -, -, -⟩ := pk_T hc7; clear he5)
        | (at_builtin; refine wpList_Es rfl _ _ rfl v5 _ nm rfl rfl HE5.out (by rw [List.length_append, hfl]; omega) ?_; intro v6 w6 he6; have HE6 := Lib.hid he6; have hc8 := he6.2; rw [HZ0.out] at hc8; obtain ⟨-, -, -, q7⟩ := pk_T hc8; clear he6))
      have hl6 : (x4 ++ flg true nm.size ++ nm.data.toList).length ≤ 14 + 255 := by
        rw [List.length_append, List.length_append, hfl]
        have : nm.data.toList.length = nm.size := by simp
        omega
      have HX6 := Lib.hid (show bodyP src pri seq uni syn true nm.data.toList m = (x4 ++ flg true nm.size ++ nm.data.toList) ++ b2 m.length ++ m by
        unfold bodyP; rw [HX4.out, show nm.data.toList.length = nm.size by simp])
      generalize x4 ++ flg true nm.size ++ nm.data.toList = x6 at *
      clear q1 q6 hc6 hc7 FC hfl he4 HX4 HE4 HE5
      go_region_held3 (fun w' => w'.cell? ⟨w.heap.size, 7, none⟩ = some (.slice ao m.length cap)) (exact (pk_T (by go_grown)).2.2.2)
        (first
          | (go_at_call 56; ((with_reducible refine (two_E _ x6 m.length v6 _ (by omega) (by omega) (by exact HE6.out.drew)).mono ?_); rintro e w7 ⟨v7, rfl, he7, -⟩; have HE7 := Lib.hid he7; have hc9 := he7.2; rw [HZ0.out] at hc9; clear he7))
          | ((refine step_E (by rfl) _ _ (by rfl) (by rfl) B v7 _ (x6 ++ b2 m.length) m (by rfl) (by rfl) HE7.out (HSW.out _ hc9) (by rw [len_b2]; omega) ?_); intro v8 w8 he8; have hc10 := he8.2; rw [HZ0.out] at hc10; have HE8 := Lib.hid he8; clear he8)
          | fail)
      have hl8 : (x6 ++ b2 m.length ++ m).length ≤ 271 + 512 := by rw [List.length_append, len_b2]; omega
      have SM := Lib.hid (sumV _ _ w8 ((ByS.of_own HE8.out.1).bytesV (Nat.le_refl _)))
      have hci := crc_lt (x6 ++ b2 m.length ++ m)
      have HXE := Lib.hid (show encP src pri seq uni syn true nm.data.toList m = (x6 ++ b2 m.length ++ m) ++ b2 (crc (x6 ++ b2 m.length ++ m)) by unfold encP; rw [HX6.out]; rfl)
      generalize x6 ++ b2 m.length ++ m = x8 at *
      generalize hc0 : crc x8 = c at *
      clear hc0 HX6 hl6 HE6 HE7
      go_wp2_with fail
      refine SM.out.mono ?_
      rintro e w9 ⟨rfl, rfl⟩
      go_wp2_with fail
      refine (two_E _ x8 c v8 _ (by omega) (by omega) HE8.out).mono ?_
      rintro e w9 ⟨v9, rfl, he9, -⟩
      have HE9 := Lib.hid he9
      clear he9
      go_wp2
      go_ret
      exact ⟨v9, by rfl, by rw [HXE.out]; exact ByS.of_own HE9.out.1, ((Below.refl _ w).alloc (Nat.le_refl _) _).trans (HE9.out.2.mono (by simp))⟩
    | false =>
      go_upto_region 9 with (first
        | (at_builtin; refine wpList_E rfl _ _ rfl rfl _ v4 _ x4 (flg false nm.size) rfl rfl (HE4.out.alloc _) (lit_block (n := 2) (heap_alloc_new _ _) (FC false).out rfl (by omega)) (by rw [hfl]; omega) ?_; intro v5 w5 he5; have HE5 := Lib.hid he5; have hc7 := he5.2; rw [HZ0.out] at hc7; obtain ⟨q1, -, -, -⟩ := pk_T hc7; clear he5)
        | (at_builtin; refine wpList_Es rfl _ _ rfl v5 _ nm rfl rfl HE5.out (by rw [List.length_append, hfl]; omega) ?_; intro v6 w6 he6; have HE6 := Lib.hid he6; have hc8 := he6.2; rw [HZ0.out] at hc8; obtain ⟨-, -, -, q7⟩ := pk_T hc8; clear he6))
      have hl6 : (x4 ++ flg false nm.size ++ nm.data.toList).length ≤ 14 + 255 := by
        rw [List.length_append, List.length_append, hfl]
        have : nm.data.toList.length = nm.size := by simp
        omega
      have HX6 := Lib.hid (show bodyP src pri seq uni syn false nm.data.toList m = (x4 ++ flg false nm.size ++ nm.data.toList) ++ b2 m.length ++ m by
        unfold bodyP; rw [HX4.out, show nm.data.toList.length = nm.size by simp])
      generalize x4 ++ flg false nm.size ++ nm.data.toList = x6 at *
      clear q1 q6 hc6 hc7 FC hfl he4 HX4 HE4 HE5
      go_region_held3 (fun w' => w'.cell? ⟨w.heap.size, 7, none⟩ = some (.slice ao m.length cap)) (exact (pk_T (by go_grown)).2.2.2)
        (first
          | (go_at_call 56; ((with_reducible refine (two_E _ x6 m.length v6 _ (by omega) (by omega) (by exact HE6.out.drew)).mono ?_); rintro e w7 ⟨v7, rfl, he7, -⟩; have HE7 := Lib.hid he7; have hc9 := he7.2; rw [HZ0.out] at hc9; clear he7))
          | ((refine step_E (by rfl) _ _ (by rfl) (by rfl) B v7 _ (x6 ++ b2 m.length) m (by rfl) (by rfl) HE7.out (HSW.out _ hc9) (by rw [len_b2]; omega) ?_); intro v8 w8 he8; have hc10 := he8.2; rw [HZ0.out] at hc10; have HE8 := Lib.hid he8; clear he8)
          | fail)
      have hl8 : (x6 ++ b2 m.length ++ m).length ≤ 271 + 512 := by rw [List.length_append, len_b2]; omega
      have SM := Lib.hid (sumV _ _ w8 ((ByS.of_own HE8.out.1).bytesV (Nat.le_refl _)))
      have hci := crc_lt (x6 ++ b2 m.length ++ m)
      have HXE := Lib.hid (show encP src pri seq uni syn false nm.data.toList m = (x6 ++ b2 m.length ++ m) ++ b2 (crc (x6 ++ b2 m.length ++ m)) by unfold encP; rw [HX6.out]; rfl)
      generalize x6 ++ b2 m.length ++ m = x8 at *
      generalize hc0 : crc x8 = c at *
      clear hc0 HX6 hl6 HE6 HE7
      go_wp2_with fail
      refine SM.out.mono ?_
      rintro e w9 ⟨rfl, rfl⟩
      go_wp2_with fail
      refine (two_E _ x8 c v8 _ (by omega) (by omega) HE8.out).mono ?_
      rintro e w9 ⟨v9, rfl, he9, -⟩
      have HE9 := Lib.hid he9
      clear he9
      go_wp2
      go_ret
      exact ⟨v9, by rfl, by rw [HXE.out]; exact ByS.of_own HE9.out.1, ((Below.refl _ w).alloc (Nat.le_refl _) _).trans (HE9.out.2.mono (by simp))⟩
end Go.Proofs.Ytfipkljefmfhmaa
