/- The contract of encode of the reference. -/
import Derived.Test.YtfipkljefmfhmaaEncode
import Derived.Test.YtfipkljefmfhmaaRegion
namespace Go.Proofs.Ytfipkljefmfhmaa
open Go.RowKit
set_option linter.unusedVariables false
set_option linter.unusedSimpArgs false

/-- memory grows; the mark of a block of four cells may turn -/
def Gr (w w' : World) : Prop := w.heap.size ≤ w'.heap.size ∧ ∀ (b : Nat) (o : Obj), w.heap[b]? = some o → w'.heap[b]? = some o ∨ ∃ (cs : Array Value) (e : TypeId) (fz fz' : Nat × Nat), o = Obj.cells cs e fz ∧ cs.size = 4 ∧ w'.heap[b]? = some (Obj.cells cs e fz')
theorem Gr.refl (w : World) : Gr w w := ⟨Nat.le_refl _, fun b o h => .inl h⟩
theorem Gr.of_below {w w' : World} (h : Below w.heap.size w w') : Gr w w' := ⟨h.size, fun b o ho => .inl ((h.block b (block_lt ho)).trans ho)⟩
theorem Gr.cell {w w' : World} (h : Gr w w') {b i : Nat} {v : Value} (hc : w.cell? ⟨b, i, none⟩ = some v) : w'.cell? ⟨b, i, none⟩ = some v := by
  have hb := World.block_lt_of_cell? w _ hc
  simp only at hb
  have ho : w.heap[b]? = some w.heap[b] := Array.getElem?_eq_getElem hb
  rcases h.2 b _ ho with h1 | ⟨cs, e, fz, fz', he, _, h1⟩
  · rw [World.cell?_of_block (w := w) (a := ⟨b, i, none⟩) (h1.trans ho.symm)]; exact hc
  · rw [he] at ho
    rw [cell_of_row w b i cs e fz ho] at hc
    rw [cell_of_row w' b i cs e fz' h1]
    exact hc
theorem ByS.gr {w w' : World} {v : Value} {l : List UInt8} (h : ByS w.heap.size w v l) (hg : Gr w w') : ByS w'.heap.size w' v l := by
  obtain ⟨ao, cap, e, h1, h2, h3⟩ := h
  refine ⟨ao, cap, e, h1, h2, fun hl => ?_⟩
  obtain ⟨b, off, e2, hb, hc⟩ := h3 hl
  exact ⟨b, off, e2, by have := hg.1; omega, fun i hi => hg.cell (hc i hi)⟩
theorem ownsRow_gr {w w' : World} {base e n : Nat} {v : Value} {xs : List Value} (h : w.ownsRow base e 1 v n xs) (hn : 5 ≤ n) (hg : Gr w w') : w'.ownsRow base e 1 v n xs := by
  refine ⟨h.1, ?_⟩
  rcases h.2 with h2 | ⟨g, cap, cur, e1, h1, hh, h3, h4, h5, h6⟩
  · exact .inl h2
  · refine .inr ⟨g, cap, cur, e1, h1, ?_, h3, h4, h5, h6⟩
    rcases hg.2 g _ hh with h7 | ⟨cs, e', fz, fz', he, hsz, _⟩
    · exact h7
    · injection he with he1
      subst he1
      omega

theorem wp_val {P : Program} {o : Oper} {a : Act} {w w' : World} {K : Act → World → Prop} {Q : Exit → Act → World → Prop} {v : Value} (h : (execOp a.eval o).run P w = .ok (.value v) w') (hK : K (a.put o.dst v) w') : o.wp P a w K Q := by
  unfold Oper.wp
  rw [h]
  exact hK

/-- what is known of the slots of the one great region of encode -/
def PhiE (pb src pri seq uni syn : Nat) (fl : Int) (nm : ByteArray) (en : Bool) (sl : Value) (m : List UInt8) (W0 : World) : Nat → Value → World → Prop
  | 0 => fun v w => ∃ b fz, v = .slice (some ⟨b, 0, none⟩) 4 4 ∧ W0.heap.size ≤ b ∧ w.heap[b]? = some (.cells #[.int .u8 67, .int .u8 89, .int .u8 67, .int .u8 49] 5 fz)
  | 1 => fun v w => ByS w.heap.size w v headB
  | 2 => fun v w => ByS w.heap.size w v [1]
  | 3 => fun v _ => v = .pointer (some ⟨pb, 0, none⟩)
  | 4 => fun v _ => v = .int .i64 src
  | 5 => fun v w => ByS w.heap.size w v (b2 src)
  | 6 => fun v _ => v = .pointer (some ⟨pb, 2, none⟩)
  | 7 => fun v _ => v = .int .i64 pri
  | 8 => fun v _ => v = .int .u8 pri
  | 9 => fun v _ => v = .pointer (some ⟨pb, 3, none⟩)
  | 10 => fun v _ => v = .int .i64 seq
  | 11 => fun v _ => v = .int .u8 seq
  | 12 => fun v _ => v = .pointer (some ⟨pb, 4, none⟩)
  | 13 => fun v _ => v = .int .i64 uni
  | 14 => fun v _ => v = .int .u8 uni
  | 15 => fun v w => ByS w.heap.size w v (mid3 pri seq uni)
  | 16 => fun v _ => v = .pointer (some ⟨pb, 5, none⟩)
  | 17 => fun v _ => v = .int .i64 syn
  | 18 => fun v w => ByS w.heap.size w v (b2 syn)
  | 19 => fun v _ => v = .int .u8 fl
  | 20 => fun v _ => v = .pointer (some ⟨pb, 1, none⟩)
  | 21 => fun v _ => v = .string nm
  | 22 => fun v _ => v = .int .i64 (nm.size : Nat)
  | 23 => fun v _ => v = .int .u8 (nm.size : Nat)
  | 24 => fun v w => ByS w.heap.size w v (flg en nm.size)
  | 25 => fun v _ => v = .pointer (some ⟨pb, 1, none⟩)
  | 26 => fun v _ => v = .string nm
  | 27 => fun v w => ByS w.heap.size w v nm.data.toList
  | 28 => fun v _ => v = .pointer (some ⟨pb, 7, none⟩)
  | 29 => fun v _ => v = sl
  | 30 => fun v _ => v = .int .i64 (m.length : Nat)
  | 31 => fun v w => ByS w.heap.size w v (b2 m.length)
  | 32 => fun v _ => v = .pointer (some ⟨pb, 7, none⟩)
  | 33 => fun v w => v = sl ∧ ByS w.heap.size w v m
  | 34 => fun v w => ∃ g B, v = .slice (some ⟨g, 0, none⟩) 9 9 ∧ B ≤ w.heap.size ∧ PartsB B w g [headB, [1], b2 src, mid3 pri seq uni, b2 syn, flg en nm.size, nm.data.toList, b2 m.length, m]
  | 35 => fun v w => w.ownsRow W0.heap.size 5 1 v (bodyP src pri seq uni syn en nm.data.toList m).length (bcells (bodyP src pri seq uni syn en nm.data.toList m))
  | 36 => fun v w => w.ownsRow W0.heap.size 5 1 v (bodyP src pri seq uni syn en nm.data.toList m).length (bcells (bodyP src pri seq uni syn en nm.data.toList m))
  | _ => fun _ _ => True

theorem PartsB.gr {B g : Nat} {w w' : World} {ls : List (List UInt8)} (h : PartsB B w g ls) (hB : B ≤ w.heap.size) (hg : Gr w w') : PartsB B w' g ls := by
  obtain ⟨h1, h2⟩ := h
  refine ⟨by have := hg.1; omega, fun i hi => ?_⟩
  obtain ⟨v, hv, hb⟩ := h2 i hi
  refine ⟨v, hg.cell hv, ?_⟩
  obtain ⟨ao, cap, e, k1, k2, k3⟩ := hb
  refine ⟨ao, cap, e, k1, k2, fun hl => ?_⟩
  obtain ⟨b, off, e2, hbb, hc⟩ := k3 hl
  exact ⟨b, off, e2, hbb, fun j hj => hg.cell (hc j hj)⟩
theorem bodyP_len (src pri seq uni syn : Nat) (en : Bool) (nm m : List UInt8) : 5 ≤ (bodyP src pri seq uni syn en nm m).length := by
  simp [bodyP, headB, b2, mid3, flg]
theorem PhiE.gr {pb src pri seq uni syn : Nat} {fl : Int} {nm : ByteArray} {en : Bool} {sl : Value} {m : List UInt8} {W0 : World} (j : Nat) (v : Value) (w w' : World)
    (h : PhiE pb src pri seq uni syn fl nm en sl m W0 j v w) (hg : Gr w w') : PhiE pb src pri seq uni syn fl nm en sl m W0 j v w' := by
  unfold PhiE at h ⊢
  split at h <;> first | exact h | exact h.gr hg | skip
  · obtain ⟨b, fz, e, hb, ho⟩ := h
    rcases hg.2 b _ ho with h1 | ⟨cs, e', fz0, fz', he, _, h1⟩
    · exact ⟨b, fz, e, hb, h1⟩
    · injection he with e1 e2 e3
      subst e1 e2
      exact ⟨b, fz', e, hb, h1⟩
  · exact ⟨h.1, h.2.gr hg⟩
  · obtain ⟨g, B, e, hB, hp⟩ := h
    exact ⟨g, B, e, by have := hg.1; omega, hp.gr hB hg⟩
  · exact ownsRow_gr h (bodyP_len _ _ _ _ _ _ _ _) hg
  · exact ownsRow_gr h (bodyP_len _ _ _ _ _ _ _ _) hg

theorem wp_enter {P : Program} {o : Oper} {a : Act} {w : World} {f : FuncId} {args : Array Value} {K : Act → World → Prop} {Q : Exit → Act → World → Prop} (h : (execOp a.eval o).run P w = .ok (.enter f args) w)
    (hc : Calls P f args w (fun e w' => ∃ v, e = .returned v ∧ K (a.put o.dst v) w')) : o.wp P a w K Q := by
  unfold Oper.wp
  rw [h]
  exact hc.mono fun e w'' ⟨v, he, hk⟩ => by subst he; exact hk

/-- the region's outcome: slot 4 -/
def RelE (W0 : World) (x : List UInt8) (v : Value) (w : World) : Prop := w.ownsRow W0.heap.size 5 1 v x.length (bcells x) ∧ Below W0.heap.size W0 w

/-- a slice's own mark, wherever its row lies -/
theorem freeze_size (w : World) (a : Addr) (n : Nat) : (w.freeze a n).heap.size = w.heap.size := by
  unfold World.freeze
  split <;> simp
theorem conv_b (W : World) (b : Nat) (C : Array Value) (fz : Nat × Nat) (n c : Nat) (h : W.heap[b]? = some (.cells C 5 fz)) :
    ∃ fz', (convert 22 22 (.slice (some ⟨b, 0, none⟩) n c)).run Try.prog W = .ok (.slice (some ⟨b, 0, none⟩) n c) (W.freeze ⟨b, C.size, none⟩ 1) ∧
      (W.freeze ⟨b, C.size, none⟩ 1).heap[b]? = some (.cells C 5 fz') ∧ ∀ k, k ≠ b → (W.freeze ⟨b, C.size, none⟩ 1).heap[k]? = W.heap[k]? := by
  have hsh : W.shape? b = some (5, C.size) := by unfold World.shape?; rw [h]
  obtain ⟨lo, hi⟩ := fz
  refine ⟨if lo == hi then (C.size, C.size + 1) else (min lo C.size, max hi (C.size + 1)), ?_, ?_, fun k hk => ?_⟩
  · simp [convert, run_underlying Try.underlying22, run_underlying Try.underlying5, markStringish, hsh]
  · unfold World.freeze
    rw [if_neg (by decide)]
    simp [Array.getElem?_modify, h]
  · unfold World.freeze
    rw [if_neg (by decide)]
    simp only [Array.getElem?_modify]
    rw [if_neg (by simpa using fun e => hk e.symm)]
theorem partsN {B : Nat} {w : World} {g T : Nat} {vs : Array Value} {ls : List (List UInt8)} (hg : g = w.heap.size) (hB : B ≤ w.heap.size) (h : ∀ i (h : i < ls.length), ∃ v, vs[i]? = some v ∧ ByS B w v ls[i]) :
    PartsB B (w.alloc (.cells vs T)) g ls := by
  subst hg
  refine ⟨by simp, fun i hi => ?_⟩
  obtain ⟨v, hv, hb⟩ := h i hi
  exact ⟨v, (cell_of_row _ _ i _ _ _ (heap_alloc_new w _)).trans hv, hb.alloc hB _ (Nat.le_refl _)⟩
theorem str_bytes (W : World) (nm : ByteArray) (fz : Nat × Nat) (hmx : nm.size ≤ maxLen) :
    ByS (W.drew.alloc (.cells (bytesRow nm (grownCap W nm.size 0 5)) 5 fz)).heap.size (W.drew.alloc (.cells (bytesRow nm (grownCap W nm.size 0 5)) 5 fz)) (.slice (some ⟨W.heap.size, 0, none⟩) nm.size (grownCap W nm.size 0 5)) nm.data.toList := by
  have hl : nm.data.toList.length = nm.size := by simp
  refine ⟨some ⟨W.heap.size, 0, none⟩, grownCap W nm.size 0 5, by rw [hl], by rw [hl]; exact grownCap_ge _ _ _ _, grownCap_le_maxLen W nm.size 0 _ hmx, fun _ => ⟨W.heap.size, 0, rfl, by simp, fun i hi => ?_⟩⟩
  have h1 : (W.drew.alloc (.cells (bytesRow nm (grownCap W nm.size 0 5)) 5 fz)).heap[W.heap.size]? = some (.cells (bytesRow nm (grownCap W nm.size 0 5)) 5 fz) := heap_alloc_new W.drew _
  have hi2 : i < nm.data.size := by simpa using hi
  rw [cell_of_row _ W.heap.size (0 + i) _ _ _ h1, Nat.zero_add]
  unfold bytesRow
  rw [Array.getElem?_append_left (by simpa using hi2)]
  simp [Array.getElem?_eq_getElem hi2]
theorem body_flat (src pri seq uni syn : Nat) (en : Bool) (nm : ByteArray) (m : List UInt8) :
    [headB, [1], b2 src, mid3 pri seq uni, b2 syn, flg en nm.size, nm.data.toList, b2 m.length, m].flatten = bodyP src pri seq uni syn en nm.data.toList m := by
  have hl : nm.data.toList.length = nm.size := by simp
  unfold bodyP
  rw [hl]
  simp
theorem own_to {w : World} {base e : Nat} {v : Value} {x y : List UInt8} (h : x = y) (ho : w.ownsRow base e 1 v x.length (bcells x)) : w.ownsRow base e 1 v y.length (bcells y) := by subst h; exact ho

theorem arr_lit (t : Array Value) (n : Nat) (h : t.size = n) : t = ((List.range n).map fun i => t.getD i undef).toArray := by
  subst h
  apply Array.ext
  · simp
  · intro i h1 h2
    simp [Array.getD, h1]
theorem cons_eq {a b : Value} {l m : List Value} (h : a = b) (h2 : l = m) : a :: l = b :: m := by rw [h, h2]
theorem act_eq {t : Array Value} {l l' : List Value} (h : t = l.toArray) (h2 : l = l') : (⟨t, []⟩ : Act) = ⟨l'.toArray, []⟩ := by rw [h, h2]

def insB (ops : Array Oper) (n : Nat) : Bool := ops.toList.all fun o => (o.dst.map fun d => decide (d < n)).getD true
theorem ins_of {ops : Array Oper} {n : Nat} (h : insB ops n = true) {j : Nat} {o : Oper} {d : Nat} (ho : ops[j]? = some o) (hd : o.dst = some d) : d < n := by
  unfold insB at h
  rw [List.all_eq_true] at h
  obtain ⟨hj, e⟩ := Array.getElem?_eq_some_iff.1 ho
  have h1 := h o (by rw [← e]; simp)
  rw [hd] at h1
  simpa using h1
def notB (ops : Array Oper) (s : Nat) : Bool := ops.toList.all fun o => decide (o.dst ≠ some s)
theorem not_of {ops : Array Oper} {s : Nat} (h : notB ops s = true) (j : Nat) (o : Oper) (ho : ops[j]? = some o) : o.dst ≠ some s := by
  unfold notB at h
  rw [List.all_eq_true] at h
  obtain ⟨hj, e⟩ := Array.getElem?_eq_some_iff.1 ho
  simpa using h o (by rw [← e]; simp)

set_option maxHeartbeats 8000000 in
set_option maxRecDepth 100000 in
theorem rencode_any (B : Nat) (src pri seq uni syn : Nat) (nm : ByteArray) (en : Bool) (sl : Value) (m : List UInt8) (w : World) (hB : B ≤ w.heap.size) (h1 : src ≤ 65535) (h2 : pri ≤ 255) (h3 : seq ≤ 255) (h4 : uni ≤ 255) (h5 : syn ≤ 65535)
    (hn : nm.size ≤ 255) (hm : m.length ≤ 512) (hs : ByS B w sl m) :
    Calls Try.prog 75 #[pkV src nm pri seq uni syn en sl] w (REncP (encP src pri seq uni syn en nm.data.toList m) w) := by
  obtain ⟨ao, cap, rfl, c1, c2, hx⟩ := id hs
  have HS := Lib.hid hs
  clear hx hs
  have u2 : IntKind.u8.wrap (pri : Int) = (pri : Int) := IntWalk.u8_in _ (by omega)
  have u3 : IntKind.u8.wrap (seq : Int) = (seq : Int) := IntWalk.u8_in _ (by omega)
  have u4 : IntKind.u8.wrap (uni : Int) = (uni : Int) := IntWalk.u8_in _ (by omega)
  have u5 : IntKind.u8.wrap (nm.size : Int) = (nm.size : Int) := IntWalk.u8_in _ (by omega)
  have hm2 : m.length ≤ 65535 := by omega
  have slB : ∀ {W0 : World} {o : Obj} (W : World), W0 = w.alloc o → Below (w.heap.size + 1) W0 W → ByS W.heap.size W (.slice ao m.length cap) m := by
    rintro W0 o W rfl hW
    have hsz := hW.size
    simp at hsz
    exact ((HS.out.alloc hB o (Nat.le_refl _)).below (hW.mono (by omega))).more (by omega)
  cases en with
  | true =>
    go_enter Try.func75, Try.ntmps75
    go_upto_region 4 with fail
    go_cut [4] (fun s4 wx => RelE (pkW w src nm pri seq uni syn true (.slice ao m.length cap)) (bodyP src pri seq uni syn true nm.data.toList m) s4 wx)
    case first =>
      refine region_phi (by kernel_rfl) (by kernel_rfl) (by kernel_rfl) (PhiE w.heap.size src pri seq uni syn 1 nm true (.slice ao m.length cap) m (pkW w src nm pri seq uni syn true (.slice ao m.length cap)))
        (fun W => Below (w.heap.size + 1) (pkW w src nm pri seq uni syn true (.slice ao m.length cap)) W) Gr ?_ PhiE.gr ?_ ?_ ?_
      · exact (Below.refl _ _).drew
      · intro j o d ho hd
        exact ins_of (n := 48) (by kernel_rfl) ho hd
      · intro i o a W hio hsh hW hpre
        have t1 : a.tmps.getD 1 undef = .pointer (some ⟨w.heap.size, 0, none⟩) := (hsh.2.2 1 (not_of (by kernel_rfl))).trans rfl
        have t3 : a.tmps.getD 3 undef = .int .u8 1 := (hsh.2.2 3 (not_of (by kernel_rfl))).trans rfl
        have hsz : w.heap.size + 1 ≤ W.heap.size := by have := hW.size; simpa using this
        have GA : ∀ o, Gr W (W.alloc o) := fun o => Gr.of_below ((Below.refl _ _).alloc (Nat.le_refl _) o)
        have WA : ∀ o, Below (w.heap.size + 1) (pkW w src nm pri seq uni syn true (.slice ao m.length cap)) (W.alloc o) := fun o => hW.alloc hsz o
        obtain ⟨q0, q2, q3, q4⟩ := pk_S hW
        obtain ⟨q1, q5, -, q7⟩ := pk_T hW
        match i, hio with
        | 0, hio =>
          cases hio
          exact wp_val (v := .slice (some ⟨W.heap.size, 0, none⟩) 4 4) (w' := W.alloc (.cells #[.int .u8 67, .int .u8 89, .int .u8 67, .int .u8 49] 5)) (by simp [execOp, Act.eval, go_sem]) ⟨_, rfl, ⟨W.heap.size, (0, 0), rfl, by simpa using hsz, heap_alloc_new W _⟩, WA _, GA _⟩
        | 1, hio =>
          cases hio
          have p := hpre ⟨0, .data⟩ (by simp) (by rfl) _ _ rfl rfl
          obtain ⟨b, fz, pv, hb, ho⟩ := p
          obtain ⟨fz', hrun, hnew, hoth⟩ := conv_b W b _ fz 4 4 ho
          have hb' : w.heap.size + 1 ≤ b := by simpa using hb
          refine wp_val (v := .slice (some ⟨b, 0, none⟩) 4 4) (w' := W.freeze ⟨b, 4, none⟩ 1) (by simp [execOp, Act.eval, pv, go_sem]; rw [hrun]; rfl) ⟨_, rfl, ?_, ?_, ?_⟩
          · have hlt := block_lt hnew
            exact (lit_block (n := 4) hnew (x := headB) rfl rfl (by omega)).more (Nat.succ_le_of_lt hlt)
          · exact hW.trans ⟨rfl, rfl, rfl, by simp [freeze_size], fun k hk => hoth k (by omega)⟩
          · refine ⟨by simp [freeze_size], fun k o hk => ?_⟩
            by_cases hkb : k = b
            · subst hkb
              rw [ho] at hk
              injection hk with hk
              exact .inr ⟨_, _, _, _, hk.symm, rfl, hnew⟩
            · exact .inl ((hoth k hkb).trans hk)
        | 2, hio =>
          cases hio
          exact wp_val (v := .slice (some ⟨W.heap.size, 0, none⟩) 1 1) (w' := W.alloc (.cells #[.int .u8 1] 5)) (by simp [execOp, Act.eval, go_sem]) ⟨_, rfl, (lit_bytes W [1] _ (0, 0) 1 _ rfl rfl rfl (by omega)).more (by simp), WA _, GA _⟩
        | 3, hio =>
          cases hio
          exact wp_val (v := .pointer (some ⟨w.heap.size, 0, none⟩)) (w' := W) (by simp [execOp, Act.eval, t1, go_sem]) ⟨_, rfl, rfl, hW, Gr.refl _⟩
        | 4, hio =>
          cases hio
          have p := hpre ⟨3, .data⟩ (by simp) (by rfl) _ _ rfl rfl
          exact wp_val (v := .int .i64 (src : Nat)) (w' := W) (by simp [execOp, Act.eval, show a.tmps.getD _ undef = _ from p, q0, go_sem]) ⟨_, rfl, rfl, hW, Gr.refl _⟩
        | 5, hio =>
          cases hio
          have p := hpre ⟨4, .data⟩ (by simp) (by rfl) _ _ rfl rfl
          refine wp_enter (f := 111) (args := #[.int .i64 (src : Nat)]) (by simp [execOp, Act.eval, show a.tmps.getD _ undef = _ from p, go_sem]) ?_
          refine (rtwo_any src W h1).mono ?_
          rintro e w' ⟨rfl, rfl⟩
          exact ⟨_, rfl, _, rfl, (lit_bytes W (b2 src) _ (0, 0) 2 _ rfl (b2_toList src h1) rfl (by omega)).more (by simp), WA _, GA _⟩
        | 6, hio =>
          cases hio
          exact wp_val (v := .pointer (some ⟨w.heap.size, 2, none⟩)) (w' := W) (by simp [execOp, Act.eval, t1, go_sem]) ⟨_, rfl, rfl, hW, Gr.refl _⟩
        | 7, hio =>
          cases hio
          have p := hpre ⟨6, .data⟩ (by simp) (by rfl) _ _ rfl rfl
          exact wp_val (v := .int .i64 (pri : Nat)) (w' := W) (by simp [execOp, Act.eval, show a.tmps.getD _ undef = _ from p, q2, go_sem]) ⟨_, rfl, rfl, hW, Gr.refl _⟩
        | 8, hio =>
          cases hio
          have p := hpre ⟨7, .data⟩ (by simp) (by rfl) _ _ rfl rfl
          exact wp_val (v := .int .u8 (pri : Nat)) (w' := W) (by simp [execOp, Act.eval, show a.tmps.getD _ undef = _ from p, u2, go_sem]) ⟨_, rfl, rfl, hW, Gr.refl _⟩
        | 9, hio =>
          cases hio
          exact wp_val (v := .pointer (some ⟨w.heap.size, 3, none⟩)) (w' := W) (by simp [execOp, Act.eval, t1, go_sem]) ⟨_, rfl, rfl, hW, Gr.refl _⟩
        | 10, hio =>
          cases hio
          have p := hpre ⟨9, .data⟩ (by simp) (by rfl) _ _ rfl rfl
          exact wp_val (v := .int .i64 (seq : Nat)) (w' := W) (by simp [execOp, Act.eval, show a.tmps.getD _ undef = _ from p, q3, go_sem]) ⟨_, rfl, rfl, hW, Gr.refl _⟩
        | 11, hio =>
          cases hio
          have p := hpre ⟨10, .data⟩ (by simp) (by rfl) _ _ rfl rfl
          exact wp_val (v := .int .u8 (seq : Nat)) (w' := W) (by simp [execOp, Act.eval, show a.tmps.getD _ undef = _ from p, u3, go_sem]) ⟨_, rfl, rfl, hW, Gr.refl _⟩
        | 12, hio =>
          cases hio
          exact wp_val (v := .pointer (some ⟨w.heap.size, 4, none⟩)) (w' := W) (by simp [execOp, Act.eval, t1, go_sem]) ⟨_, rfl, rfl, hW, Gr.refl _⟩
        | 13, hio =>
          cases hio
          have p := hpre ⟨12, .data⟩ (by simp) (by rfl) _ _ rfl rfl
          exact wp_val (v := .int .i64 (uni : Nat)) (w' := W) (by simp [execOp, Act.eval, show a.tmps.getD _ undef = _ from p, q4, go_sem]) ⟨_, rfl, rfl, hW, Gr.refl _⟩
        | 14, hio =>
          cases hio
          have p := hpre ⟨13, .data⟩ (by simp) (by rfl) _ _ rfl rfl
          exact wp_val (v := .int .u8 (uni : Nat)) (w' := W) (by simp [execOp, Act.eval, show a.tmps.getD _ undef = _ from p, u4, go_sem]) ⟨_, rfl, rfl, hW, Gr.refl _⟩
        | 15, hio =>
          cases hio
          have pa := hpre ⟨8, .data⟩ (by simp) (by rfl) _ _ rfl rfl
          have pb := hpre ⟨11, .data⟩ (by simp) (by rfl) _ _ rfl rfl
          have pc := hpre ⟨14, .data⟩ (by simp) (by rfl) _ _ rfl rfl
          have pa' : a.tmps[15]?.getD undef = .int .u8 (pri : Nat) := (Array.getD_eq_getD_getElem? ..).symm.trans pa
          have pb' : a.tmps[18]?.getD undef = .int .u8 (seq : Nat) := (Array.getD_eq_getD_getElem? ..).symm.trans pb
          have pc' : a.tmps[21]?.getD undef = .int .u8 (uni : Nat) := (Array.getD_eq_getD_getElem? ..).symm.trans pc
          exact wp_val (v := .slice (some ⟨W.heap.size, 0, none⟩) 3 3) (w' := W.alloc (.cells #[.int .u8 (pri : Nat), .int .u8 (seq : Nat), .int .u8 (uni : Nat)] 5)) (by simp [execOp, Act.eval, pa', pb', pc', go_sem]) ⟨_, rfl, (lit_bytes W (mid3 pri seq uni) _ (0, 0) 3 _ rfl (mid_cells pri seq uni h2 h3 h4) rfl (by omega)).more (by simp), WA _, GA _⟩
        | 16, hio =>
          cases hio
          exact wp_val (v := .pointer (some ⟨w.heap.size, 5, none⟩)) (w' := W) (by simp [execOp, Act.eval, t1, go_sem]) ⟨_, rfl, rfl, hW, Gr.refl _⟩
        | 17, hio =>
          cases hio
          have p := hpre ⟨16, .data⟩ (by simp) (by rfl) _ _ rfl rfl
          exact wp_val (v := .int .i64 (syn : Nat)) (w' := W) (by simp [execOp, Act.eval, show a.tmps.getD _ undef = _ from p, q5, go_sem]) ⟨_, rfl, rfl, hW, Gr.refl _⟩
        | 18, hio =>
          cases hio
          have p := hpre ⟨17, .data⟩ (by simp) (by rfl) _ _ rfl rfl
          refine wp_enter (f := 111) (args := #[.int .i64 (syn : Nat)]) (by simp [execOp, Act.eval, show a.tmps.getD _ undef = _ from p, go_sem]) ?_
          refine (rtwo_any syn W h5).mono ?_
          rintro e w' ⟨rfl, rfl⟩
          exact ⟨_, rfl, _, rfl, (lit_bytes W (b2 syn) _ (0, 0) 2 _ rfl (b2_toList syn h5) rfl (by omega)).more (by simp), WA _, GA _⟩
        | 19, hio =>
          cases hio
          exact wp_val (v := .int .u8 1) (w' := W) (by simp [execOp, Act.eval, t3, go_sem]) ⟨_, rfl, rfl, hW, Gr.refl _⟩
        | 20, hio =>
          cases hio
          exact wp_val (v := .pointer (some ⟨w.heap.size, 1, none⟩)) (w' := W) (by simp [execOp, Act.eval, t1, go_sem]) ⟨_, rfl, rfl, hW, Gr.refl _⟩
        | 21, hio =>
          cases hio
          have p := hpre ⟨20, .data⟩ (by simp) (by rfl) _ _ rfl rfl
          exact wp_val (v := .string nm) (w' := W) (by simp [execOp, Act.eval, show a.tmps.getD _ undef = _ from p, q1, go_sem]) ⟨_, rfl, rfl, hW, Gr.refl _⟩
        | 22, hio =>
          cases hio
          have p := hpre ⟨21, .data⟩ (by simp) (by rfl) _ _ rfl rfl
          exact wp_val (v := .int .i64 (nm.size : Nat)) (w' := W) (by simp [execOp, Act.eval, show a.tmps.getD _ undef = _ from p, go_sem]) ⟨_, rfl, rfl, hW, Gr.refl _⟩
        | 23, hio =>
          cases hio
          have p := hpre ⟨22, .data⟩ (by simp) (by rfl) _ _ rfl rfl
          exact wp_val (v := .int .u8 (nm.size : Nat)) (w' := W) (by simp [execOp, Act.eval, show a.tmps.getD _ undef = _ from p, u5, go_sem]) ⟨_, rfl, rfl, hW, Gr.refl _⟩
        | 24, hio =>
          cases hio
          have pa := hpre ⟨19, .data⟩ (by simp) (by rfl) _ _ rfl rfl
          have pb := hpre ⟨23, .data⟩ (by simp) (by rfl) _ _ rfl rfl
          have pa' : a.tmps[26]?.getD undef = .int .u8 1 := (Array.getD_eq_getD_getElem? ..).symm.trans pa
          have pb' : a.tmps[30]?.getD undef = .int .u8 (nm.size : Nat) := (Array.getD_eq_getD_getElem? ..).symm.trans pb
          exact wp_val (v := .slice (some ⟨W.heap.size, 0, none⟩) 2 2) (w' := W.alloc (.cells #[.int .u8 1, .int .u8 (nm.size : Nat)] 5)) (by simp [execOp, Act.eval, pa', pb', go_sem]) ⟨_, rfl, (lit_bytes W (flg true nm.size) _ (0, 0) 2 _ rfl (flg_cells true nm.size hn) rfl (by omega)).more (by simp), WA _, GA _⟩
        | 25, hio =>
          cases hio
          exact wp_val (v := .pointer (some ⟨w.heap.size, 1, none⟩)) (w' := W) (by simp [execOp, Act.eval, t1, go_sem]) ⟨_, rfl, rfl, hW, Gr.refl _⟩
        | 26, hio =>
          cases hio
          have p := hpre ⟨25, .data⟩ (by simp) (by rfl) _ _ rfl rfl
          exact wp_val (v := .string nm) (w' := W) (by simp [execOp, Act.eval, show a.tmps.getD _ undef = _ from p, q1, go_sem]) ⟨_, rfl, rfl, hW, Gr.refl _⟩
        | 27, hio =>
          cases hio
          have p := hpre ⟨26, .data⟩ (by simp) (by rfl) _ _ rfl rfl
          refine wp_val (v := .slice (some ⟨W.heap.size, 0, none⟩) nm.size (grownCap W nm.size 0 5)) (w' := W.drew.alloc (.cells (bytesRow nm (grownCap W nm.size 0 5)) 5 ((bytesRow nm (grownCap W nm.size 0 5)).size, (bytesRow nm (grownCap W nm.size 0 5)).size + 1))) (by simp [execOp, Act.eval, show a.tmps.getD _ undef = _ from p, go_sem]; rw [run_bytes_of_string W _ _ _ nm Try.underlying9 Try.underlying22 Try.underlying5]; rfl) ⟨_, rfl, str_bytes W nm _ (by unfold maxLen; omega), (hW.drew).alloc hsz _, Gr.of_below (((Below.refl _ W).drew).alloc (Nat.le_refl _) _)⟩
        | 28, hio =>
          cases hio
          exact wp_val (v := .pointer (some ⟨w.heap.size, 7, none⟩)) (w' := W) (by simp [execOp, Act.eval, t1, go_sem]) ⟨_, rfl, rfl, hW, Gr.refl _⟩
        | 29, hio =>
          cases hio
          have p := hpre ⟨28, .data⟩ (by simp) (by rfl) _ _ rfl rfl
          exact wp_val (v := .slice ao m.length cap) (w' := W) (by simp [execOp, Act.eval, show a.tmps.getD _ undef = _ from p, q7, go_sem]) ⟨_, rfl, rfl, hW, Gr.refl _⟩
        | 30, hio =>
          cases hio
          have p := hpre ⟨29, .data⟩ (by simp) (by rfl) _ _ rfl rfl
          exact wp_val (v := .int .i64 (m.length : Nat)) (w' := W) (by simp [execOp, Act.eval, show a.tmps.getD _ undef = _ from p, go_sem]) ⟨_, rfl, rfl, hW, Gr.refl _⟩
        | 31, hio =>
          cases hio
          have p := hpre ⟨30, .data⟩ (by simp) (by rfl) _ _ rfl rfl
          refine wp_enter (f := 111) (args := #[.int .i64 (m.length : Nat)]) (by simp [execOp, Act.eval, show a.tmps.getD _ undef = _ from p, go_sem]) ?_
          refine (rtwo_any m.length W hm2).mono ?_
          rintro e w' ⟨rfl, rfl⟩
          exact ⟨_, rfl, _, rfl, (lit_bytes W (b2 m.length) _ (0, 0) 2 _ rfl (b2_toList m.length hm2) rfl (by omega)).more (by simp), WA _, GA _⟩
        | 32, hio =>
          cases hio
          exact wp_val (v := .pointer (some ⟨w.heap.size, 7, none⟩)) (w' := W) (by simp [execOp, Act.eval, t1, go_sem]) ⟨_, rfl, rfl, hW, Gr.refl _⟩
        | 33, hio =>
          cases hio
          have p := hpre ⟨32, .data⟩ (by simp) (by rfl) _ _ rfl rfl
          exact wp_val (v := .slice ao m.length cap) (w' := W) (by simp [execOp, Act.eval, show a.tmps.getD _ undef = _ from p, q7, go_sem]) ⟨_, rfl, ⟨rfl, slB W rfl hW⟩, hW, Gr.refl _⟩
        | 34, hio =>
          cases hio
          have p1 := hpre ⟨1, .data⟩ (by simp) (by rfl) _ _ rfl rfl
          obtain ⟨ao1, cap1, e1, -⟩ := id p1
          have f1 : a.tmps[8]?.getD undef = .slice ao1 headB.length cap1 := (Array.getD_eq_getD_getElem? ..).symm.trans e1
          rw [e1] at p1
          have p2 := hpre ⟨2, .data⟩ (by simp) (by rfl) _ _ rfl rfl
          obtain ⟨ao2, cap2, e2, -⟩ := id p2
          have f2 : a.tmps[9]?.getD undef = .slice ao2 [(1:UInt8)].length cap2 := (Array.getD_eq_getD_getElem? ..).symm.trans e2
          rw [e2] at p2
          have p5 := hpre ⟨5, .data⟩ (by simp) (by rfl) _ _ rfl rfl
          obtain ⟨ao5, cap5, e5, -⟩ := id p5
          have f5 : a.tmps[12]?.getD undef = .slice ao5 (b2 src).length cap5 := (Array.getD_eq_getD_getElem? ..).symm.trans e5
          rw [e5] at p5
          have p15 := hpre ⟨15, .data⟩ (by simp) (by rfl) _ _ rfl rfl
          obtain ⟨ao15, cap15, e15, -⟩ := id p15
          have f15 : a.tmps[22]?.getD undef = .slice ao15 (mid3 pri seq uni).length cap15 := (Array.getD_eq_getD_getElem? ..).symm.trans e15
          rw [e15] at p15
          have p18 := hpre ⟨18, .data⟩ (by simp) (by rfl) _ _ rfl rfl
          obtain ⟨ao18, cap18, e18, -⟩ := id p18
          have f18 : a.tmps[25]?.getD undef = .slice ao18 (b2 syn).length cap18 := (Array.getD_eq_getD_getElem? ..).symm.trans e18
          rw [e18] at p18
          have p24 := hpre ⟨24, .data⟩ (by simp) (by rfl) _ _ rfl rfl
          obtain ⟨ao24, cap24, e24, -⟩ := id p24
          have f24 : a.tmps[31]?.getD undef = .slice ao24 (flg true nm.size).length cap24 := (Array.getD_eq_getD_getElem? ..).symm.trans e24
          rw [e24] at p24
          have p27 := hpre ⟨27, .data⟩ (by simp) (by rfl) _ _ rfl rfl
          obtain ⟨ao27, cap27, e27, -⟩ := id p27
          have f27 : a.tmps[34]?.getD undef = .slice ao27 nm.data.toList.length cap27 := (Array.getD_eq_getD_getElem? ..).symm.trans e27
          rw [e27] at p27
          have p31 := hpre ⟨31, .data⟩ (by simp) (by rfl) _ _ rfl rfl
          obtain ⟨ao31, cap31, e31, -⟩ := id p31
          have f31 : a.tmps[38]?.getD undef = .slice ao31 (b2 m.length).length cap31 := (Array.getD_eq_getD_getElem? ..).symm.trans e31
          rw [e31] at p31
          have p33 := (hpre ⟨33, .data⟩ (by simp) (by rfl) _ _ rfl rfl).2
          obtain ⟨ao33, cap33, e33, -⟩ := id p33
          have f33 : a.tmps[40]?.getD undef = .slice ao33 m.length cap33 := (Array.getD_eq_getD_getElem? ..).symm.trans e33
          rw [e33] at p33
          refine wp_val (v := .slice (some ⟨W.heap.size, 0, none⟩) 9 9) (w' := W.alloc (.cells #[.slice ao1 headB.length cap1, .slice ao2 [(1:UInt8)].length cap2, .slice ao5 (b2 src).length cap5, .slice ao15 (mid3 pri seq uni).length cap15, .slice ao18 (b2 syn).length cap18, .slice ao24 (flg true nm.size).length cap24, .slice ao27 nm.data.toList.length cap27, .slice ao31 (b2 m.length).length cap31, .slice ao33 m.length cap33] 22)) (by simp only [execOp, Act.eval]; simp [f1, f2, f5, f15, f18, f24, f27, f31, f33, go_sem]) ⟨_, rfl, ⟨W.heap.size, W.heap.size, rfl, by simp, partsN rfl (Nat.le_refl _) ?_⟩, WA _, GA _⟩
          · intro i hi
            match i, hi with
            | 0, _ => exact ⟨_, rfl, p1⟩
            | 1, _ => exact ⟨_, rfl, p2⟩
            | 2, _ => exact ⟨_, rfl, p5⟩
            | 3, _ => exact ⟨_, rfl, p15⟩
            | 4, _ => exact ⟨_, rfl, p18⟩
            | 5, _ => exact ⟨_, rfl, p24⟩
            | 6, _ => exact ⟨_, rfl, p27⟩
            | 7, _ => exact ⟨_, rfl, p31⟩
            | 8, _ => exact ⟨_, rfl, p33⟩
        | 35, hio =>
          cases hio
          obtain ⟨g, B', pv, hB', hp⟩ := hpre ⟨34, .data⟩ (by simp) (by rfl) _ _ rfl rfl
          refine wp_enter (f := 110) (args := #[.slice (some ⟨g, 0, none⟩) 9 9]) (by simp [execOp, Act.eval, pv, go_sem]) ?_
          refine (concat_any B' g 9 _ W rfl hB' (by simp [headB, b2, mid3, flg]; omega) (by omega) hp).mono ?_
          rintro e w' ⟨v, rfl, ho, hb⟩
          exact ⟨_, rfl, _, rfl, own_less (own_to (body_flat src pri seq uni syn true nm m) ho) (by simpa using hsz), hW.trans (hb.mono hsz), Gr.of_below hb⟩
        | 36, hio =>
          cases hio
          have p := hpre ⟨35, .data⟩ (by simp) (by rfl) _ _ rfl rfl
          exact wp_val (v := a.tmps.getD 42 undef) (w' := W) (by simp [execOp, Act.eval, go_sem]) ⟨_, rfl, p, hW, Gr.refl _⟩
      · rintro ⟨t, d⟩ W ⟨hs, hd, hk⟩ hW hφ
        have f4 := hφ 36 _ _ rfl rfl
        have hs' : t.size = 48 := hs
        have hd' : d = [] := hd
        subst hd'
        have n0 : t.getD 0 undef = _ := (hk 0 (not_of (by kernel_rfl))).trans rfl
        have n1 : t.getD 1 undef = _ := (hk 1 (not_of (by kernel_rfl))).trans rfl
        have n2 : t.getD 2 undef = _ := (hk 2 (not_of (by kernel_rfl))).trans rfl
        have n3 : t.getD 3 undef = _ := (hk 3 (not_of (by kernel_rfl))).trans rfl
        have n5 : t.getD 5 undef = _ := (hk 5 (not_of (by kernel_rfl))).trans rfl
        have n6 : t.getD 6 undef = _ := (hk 6 (not_of (by kernel_rfl))).trans rfl
        have n43 : t.getD 43 undef = _ := (hk 43 (not_of (by kernel_rfl))).trans rfl
        have n44 : t.getD 44 undef = _ := (hk 44 (not_of (by kernel_rfl))).trans rfl
        have n45 : t.getD 45 undef = _ := (hk 45 (not_of (by kernel_rfl))).trans rfl
        have n46 : t.getD 46 undef = _ := (hk 46 (not_of (by kernel_rfl))).trans rfl
        have n47 : t.getD 47 undef = _ := (hk 47 (not_of (by kernel_rfl))).trans rfl
        have hW' : Below (pkW w src nm pri seq uni syn true (.slice ao m.length cap)).heap.size (pkW w src nm pri seq uni syn true (.slice ao m.length cap)) W := hW.mono (by simp)
        clear hφ hk hs hd
        go_wp2_with fail
        refine Met.intro ?_
        go_step
        (repeat apply Exists.intro)
        refine ⟨?rel, ?eq⟩
        case eq => exact act_eq (arr_lit t 48 hs') (cons_eq n0 (cons_eq n1 (cons_eq n2 (cons_eq n3 (cons_eq rfl (cons_eq n5 (cons_eq n6 (cons_eq rfl (cons_eq rfl (cons_eq rfl (cons_eq rfl (cons_eq rfl (cons_eq rfl (cons_eq rfl (cons_eq rfl (cons_eq rfl (cons_eq rfl (cons_eq rfl (cons_eq rfl (cons_eq rfl (cons_eq rfl (cons_eq rfl (cons_eq rfl (cons_eq rfl (cons_eq rfl (cons_eq rfl (cons_eq rfl (cons_eq rfl (cons_eq rfl (cons_eq rfl (cons_eq rfl (cons_eq rfl (cons_eq rfl (cons_eq rfl (cons_eq rfl (cons_eq rfl (cons_eq rfl (cons_eq rfl (cons_eq rfl (cons_eq rfl (cons_eq rfl (cons_eq rfl (cons_eq rfl (cons_eq n43 (cons_eq n44 (cons_eq n45 (cons_eq n46 (cons_eq n47 rfl))))))))))))))))))))))))))))))))))))))))))))))))
        case rel => exact ⟨f4, hW'⟩
    case rest =>
      obtain ⟨ho1, hB1⟩ := hcut
      have hz0 : (pkW w src nm pri seq uni syn true (.slice ao m.length cap)).heap.size = w.heap.size + 1 := by simp
      rw [hz0] at ho1 hB1
      have hsz := hB1.size
      rw [hz0] at hsz
      have hl9 : (bodyP src pri seq uni syn true nm.data.toList m).length ≤ 1000 := by
        have : nm.data.toList.length = nm.size := by simp
        simp only [bodyP, headB, b2, mid3, flg, List.length_append, List.length_cons, List.length_nil]
        omega
      have HE := Lib.hid (show encP src pri seq uni syn true nm.data.toList m = bodyP src pri seq uni syn true nm.data.toList m ++ b2 (crc (bodyP src pri seq uni syn true nm.data.toList m)) from rfl)
      have hci := crc_lt (bodyP src pri seq uni syn true nm.data.toList m)
      have HO1 := Lib.hid ho1
      have HB1 := Lib.hid hB1
      clear ho1 hB1
      generalize bodyP src pri seq uni syn true nm.data.toList m = x at *
      have SM := Lib.hid (refSumV _ x wc ((ByS.of_own HO1.out).bytesV (Nat.le_refl _)))
      generalize hc0 : crc x = c at *
      clear hc0
      obtain ⟨i0, hi, hz0, hz1, hz2⟩ := info_parts byte_info
      have Hi := Lib.hid hi
      have Hz0 := Lib.hid hz0
      have Hz1 := Lib.hid hz1
      have Hz2 := Lib.hid hz2
      clear hi hz0 hz1 hz2
      go_wp2_with fail
      refine SM.out.mono ?_
      rintro e w2 ⟨rfl, rfl⟩
      go_wp2_with fail
      refine (rtwo_any c _ (by omega)).mono ?_
      rintro e w2 ⟨rfl, rfl⟩
      go_wp2_with (at_builtin; refine wpList_append_own _ rfl _ _ 22 rfl (w.heap.size + 1) 5 i0 (.int .u8 0) 1 1 Try.underlying22 Hi.out Hz0.out Hz1.out Hz2.out rfl (by omega) u4 x.length (bcells x) rfl (HO1.out.alloc _) ⟨wc.heap.size, 0, none⟩ 2 2 (bcells (b2 c)) rfl (by rw [bcells_len]; rfl) (two_cells wc c (by omega) _ rfl) (bcells_one _) (by unfold maxLen; omega) (by omega) (by simp; omega) ?_; intro v' w2 hown hgrow _)
      rw [← bcells_append] at hown
      go_ret
      exact ⟨v', rfl, by rw [HE.out]; exact ByS.of_own hown, ((Below.refl _ w).alloc (Nat.le_refl _) _).trans ((below_own HB1.out HO1.out (grown_after_alloc hgrow) (Nat.le_refl _) hsz).mono (by omega))⟩
  | false =>
    go_enter Try.func75, Try.ntmps75
    go_upto_region 4 with fail
    go_cut [4] (fun s4 wx => RelE (pkW w src nm pri seq uni syn false (.slice ao m.length cap)) (bodyP src pri seq uni syn false nm.data.toList m) s4 wx)
    case first =>
      refine region_phi (by kernel_rfl) (by kernel_rfl) (by kernel_rfl) (PhiE w.heap.size src pri seq uni syn 0 nm false (.slice ao m.length cap) m (pkW w src nm pri seq uni syn false (.slice ao m.length cap)))
        (fun W => Below (w.heap.size + 1) (pkW w src nm pri seq uni syn false (.slice ao m.length cap)) W) Gr ?_ PhiE.gr ?_ ?_ ?_
      · exact (Below.refl _ _).drew
      · intro j o d ho hd
        exact ins_of (n := 48) (by kernel_rfl) ho hd
      · intro i o a W hio hsh hW hpre
        have t1 : a.tmps.getD 1 undef = .pointer (some ⟨w.heap.size, 0, none⟩) := (hsh.2.2 1 (not_of (by kernel_rfl))).trans rfl
        have t3 : a.tmps.getD 3 undef = .int .u8 0 := (hsh.2.2 3 (not_of (by kernel_rfl))).trans rfl
        have hsz : w.heap.size + 1 ≤ W.heap.size := by have := hW.size; simpa using this
        have GA : ∀ o, Gr W (W.alloc o) := fun o => Gr.of_below ((Below.refl _ _).alloc (Nat.le_refl _) o)
        have WA : ∀ o, Below (w.heap.size + 1) (pkW w src nm pri seq uni syn false (.slice ao m.length cap)) (W.alloc o) := fun o => hW.alloc hsz o
        obtain ⟨q0, q2, q3, q4⟩ := pk_S hW
        obtain ⟨q1, q5, -, q7⟩ := pk_T hW
        match i, hio with
        | 0, hio =>
          cases hio
          exact wp_val (v := .slice (some ⟨W.heap.size, 0, none⟩) 4 4) (w' := W.alloc (.cells #[.int .u8 67, .int .u8 89, .int .u8 67, .int .u8 49] 5)) (by simp [execOp, Act.eval, go_sem]) ⟨_, rfl, ⟨W.heap.size, (0, 0), rfl, by simpa using hsz, heap_alloc_new W _⟩, WA _, GA _⟩
        | 1, hio =>
          cases hio
          have p := hpre ⟨0, .data⟩ (by simp) (by rfl) _ _ rfl rfl
          obtain ⟨b, fz, pv, hb, ho⟩ := p
          obtain ⟨fz', hrun, hnew, hoth⟩ := conv_b W b _ fz 4 4 ho
          have hb' : w.heap.size + 1 ≤ b := by simpa using hb
          refine wp_val (v := .slice (some ⟨b, 0, none⟩) 4 4) (w' := W.freeze ⟨b, 4, none⟩ 1) (by simp [execOp, Act.eval, pv, go_sem]; rw [hrun]; rfl) ⟨_, rfl, ?_, ?_, ?_⟩
          · have hlt := block_lt hnew
            exact (lit_block (n := 4) hnew (x := headB) rfl rfl (by omega)).more (Nat.succ_le_of_lt hlt)
          · exact hW.trans ⟨rfl, rfl, rfl, by simp [freeze_size], fun k hk => hoth k (by omega)⟩
          · refine ⟨by simp [freeze_size], fun k o hk => ?_⟩
            by_cases hkb : k = b
            · subst hkb
              rw [ho] at hk
              injection hk with hk
              exact .inr ⟨_, _, _, _, hk.symm, rfl, hnew⟩
            · exact .inl ((hoth k hkb).trans hk)
        | 2, hio =>
          cases hio
          exact wp_val (v := .slice (some ⟨W.heap.size, 0, none⟩) 1 1) (w' := W.alloc (.cells #[.int .u8 1] 5)) (by simp [execOp, Act.eval, go_sem]) ⟨_, rfl, (lit_bytes W [1] _ (0, 0) 1 _ rfl rfl rfl (by omega)).more (by simp), WA _, GA _⟩
        | 3, hio =>
          cases hio
          exact wp_val (v := .pointer (some ⟨w.heap.size, 0, none⟩)) (w' := W) (by simp [execOp, Act.eval, t1, go_sem]) ⟨_, rfl, rfl, hW, Gr.refl _⟩
        | 4, hio =>
          cases hio
          have p := hpre ⟨3, .data⟩ (by simp) (by rfl) _ _ rfl rfl
          exact wp_val (v := .int .i64 (src : Nat)) (w' := W) (by simp [execOp, Act.eval, show a.tmps.getD _ undef = _ from p, q0, go_sem]) ⟨_, rfl, rfl, hW, Gr.refl _⟩
        | 5, hio =>
          cases hio
          have p := hpre ⟨4, .data⟩ (by simp) (by rfl) _ _ rfl rfl
          refine wp_enter (f := 111) (args := #[.int .i64 (src : Nat)]) (by simp [execOp, Act.eval, show a.tmps.getD _ undef = _ from p, go_sem]) ?_
          refine (rtwo_any src W h1).mono ?_
          rintro e w' ⟨rfl, rfl⟩
          exact ⟨_, rfl, _, rfl, (lit_bytes W (b2 src) _ (0, 0) 2 _ rfl (b2_toList src h1) rfl (by omega)).more (by simp), WA _, GA _⟩
        | 6, hio =>
          cases hio
          exact wp_val (v := .pointer (some ⟨w.heap.size, 2, none⟩)) (w' := W) (by simp [execOp, Act.eval, t1, go_sem]) ⟨_, rfl, rfl, hW, Gr.refl _⟩
        | 7, hio =>
          cases hio
          have p := hpre ⟨6, .data⟩ (by simp) (by rfl) _ _ rfl rfl
          exact wp_val (v := .int .i64 (pri : Nat)) (w' := W) (by simp [execOp, Act.eval, show a.tmps.getD _ undef = _ from p, q2, go_sem]) ⟨_, rfl, rfl, hW, Gr.refl _⟩
        | 8, hio =>
          cases hio
          have p := hpre ⟨7, .data⟩ (by simp) (by rfl) _ _ rfl rfl
          exact wp_val (v := .int .u8 (pri : Nat)) (w' := W) (by simp [execOp, Act.eval, show a.tmps.getD _ undef = _ from p, u2, go_sem]) ⟨_, rfl, rfl, hW, Gr.refl _⟩
        | 9, hio =>
          cases hio
          exact wp_val (v := .pointer (some ⟨w.heap.size, 3, none⟩)) (w' := W) (by simp [execOp, Act.eval, t1, go_sem]) ⟨_, rfl, rfl, hW, Gr.refl _⟩
        | 10, hio =>
          cases hio
          have p := hpre ⟨9, .data⟩ (by simp) (by rfl) _ _ rfl rfl
          exact wp_val (v := .int .i64 (seq : Nat)) (w' := W) (by simp [execOp, Act.eval, show a.tmps.getD _ undef = _ from p, q3, go_sem]) ⟨_, rfl, rfl, hW, Gr.refl _⟩
        | 11, hio =>
          cases hio
          have p := hpre ⟨10, .data⟩ (by simp) (by rfl) _ _ rfl rfl
          exact wp_val (v := .int .u8 (seq : Nat)) (w' := W) (by simp [execOp, Act.eval, show a.tmps.getD _ undef = _ from p, u3, go_sem]) ⟨_, rfl, rfl, hW, Gr.refl _⟩
        | 12, hio =>
          cases hio
          exact wp_val (v := .pointer (some ⟨w.heap.size, 4, none⟩)) (w' := W) (by simp [execOp, Act.eval, t1, go_sem]) ⟨_, rfl, rfl, hW, Gr.refl _⟩
        | 13, hio =>
          cases hio
          have p := hpre ⟨12, .data⟩ (by simp) (by rfl) _ _ rfl rfl
          exact wp_val (v := .int .i64 (uni : Nat)) (w' := W) (by simp [execOp, Act.eval, show a.tmps.getD _ undef = _ from p, q4, go_sem]) ⟨_, rfl, rfl, hW, Gr.refl _⟩
        | 14, hio =>
          cases hio
          have p := hpre ⟨13, .data⟩ (by simp) (by rfl) _ _ rfl rfl
          exact wp_val (v := .int .u8 (uni : Nat)) (w' := W) (by simp [execOp, Act.eval, show a.tmps.getD _ undef = _ from p, u4, go_sem]) ⟨_, rfl, rfl, hW, Gr.refl _⟩
        | 15, hio =>
          cases hio
          have pa := hpre ⟨8, .data⟩ (by simp) (by rfl) _ _ rfl rfl
          have pb := hpre ⟨11, .data⟩ (by simp) (by rfl) _ _ rfl rfl
          have pc := hpre ⟨14, .data⟩ (by simp) (by rfl) _ _ rfl rfl
          have pa' : a.tmps[15]?.getD undef = .int .u8 (pri : Nat) := (Array.getD_eq_getD_getElem? ..).symm.trans pa
          have pb' : a.tmps[18]?.getD undef = .int .u8 (seq : Nat) := (Array.getD_eq_getD_getElem? ..).symm.trans pb
          have pc' : a.tmps[21]?.getD undef = .int .u8 (uni : Nat) := (Array.getD_eq_getD_getElem? ..).symm.trans pc
          exact wp_val (v := .slice (some ⟨W.heap.size, 0, none⟩) 3 3) (w' := W.alloc (.cells #[.int .u8 (pri : Nat), .int .u8 (seq : Nat), .int .u8 (uni : Nat)] 5)) (by simp [execOp, Act.eval, pa', pb', pc', go_sem]) ⟨_, rfl, (lit_bytes W (mid3 pri seq uni) _ (0, 0) 3 _ rfl (mid_cells pri seq uni h2 h3 h4) rfl (by omega)).more (by simp), WA _, GA _⟩
        | 16, hio =>
          cases hio
          exact wp_val (v := .pointer (some ⟨w.heap.size, 5, none⟩)) (w' := W) (by simp [execOp, Act.eval, t1, go_sem]) ⟨_, rfl, rfl, hW, Gr.refl _⟩
        | 17, hio =>
          cases hio
          have p := hpre ⟨16, .data⟩ (by simp) (by rfl) _ _ rfl rfl
          exact wp_val (v := .int .i64 (syn : Nat)) (w' := W) (by simp [execOp, Act.eval, show a.tmps.getD _ undef = _ from p, q5, go_sem]) ⟨_, rfl, rfl, hW, Gr.refl _⟩
        | 18, hio =>
          cases hio
          have p := hpre ⟨17, .data⟩ (by simp) (by rfl) _ _ rfl rfl
          refine wp_enter (f := 111) (args := #[.int .i64 (syn : Nat)]) (by simp [execOp, Act.eval, show a.tmps.getD _ undef = _ from p, go_sem]) ?_
          refine (rtwo_any syn W h5).mono ?_
          rintro e w' ⟨rfl, rfl⟩
          exact ⟨_, rfl, _, rfl, (lit_bytes W (b2 syn) _ (0, 0) 2 _ rfl (b2_toList syn h5) rfl (by omega)).more (by simp), WA _, GA _⟩
        | 19, hio =>
          cases hio
          exact wp_val (v := .int .u8 0) (w' := W) (by simp [execOp, Act.eval, t3, go_sem]) ⟨_, rfl, rfl, hW, Gr.refl _⟩
        | 20, hio =>
          cases hio
          exact wp_val (v := .pointer (some ⟨w.heap.size, 1, none⟩)) (w' := W) (by simp [execOp, Act.eval, t1, go_sem]) ⟨_, rfl, rfl, hW, Gr.refl _⟩
        | 21, hio =>
          cases hio
          have p := hpre ⟨20, .data⟩ (by simp) (by rfl) _ _ rfl rfl
          exact wp_val (v := .string nm) (w' := W) (by simp [execOp, Act.eval, show a.tmps.getD _ undef = _ from p, q1, go_sem]) ⟨_, rfl, rfl, hW, Gr.refl _⟩
        | 22, hio =>
          cases hio
          have p := hpre ⟨21, .data⟩ (by simp) (by rfl) _ _ rfl rfl
          exact wp_val (v := .int .i64 (nm.size : Nat)) (w' := W) (by simp [execOp, Act.eval, show a.tmps.getD _ undef = _ from p, go_sem]) ⟨_, rfl, rfl, hW, Gr.refl _⟩
        | 23, hio =>
          cases hio
          have p := hpre ⟨22, .data⟩ (by simp) (by rfl) _ _ rfl rfl
          exact wp_val (v := .int .u8 (nm.size : Nat)) (w' := W) (by simp [execOp, Act.eval, show a.tmps.getD _ undef = _ from p, u5, go_sem]) ⟨_, rfl, rfl, hW, Gr.refl _⟩
        | 24, hio =>
          cases hio
          have pa := hpre ⟨19, .data⟩ (by simp) (by rfl) _ _ rfl rfl
          have pb := hpre ⟨23, .data⟩ (by simp) (by rfl) _ _ rfl rfl
          have pa' : a.tmps[26]?.getD undef = .int .u8 0 := (Array.getD_eq_getD_getElem? ..).symm.trans pa
          have pb' : a.tmps[30]?.getD undef = .int .u8 (nm.size : Nat) := (Array.getD_eq_getD_getElem? ..).symm.trans pb
          exact wp_val (v := .slice (some ⟨W.heap.size, 0, none⟩) 2 2) (w' := W.alloc (.cells #[.int .u8 0, .int .u8 (nm.size : Nat)] 5)) (by simp [execOp, Act.eval, pa', pb', go_sem]) ⟨_, rfl, (lit_bytes W (flg false nm.size) _ (0, 0) 2 _ rfl (flg_cells false nm.size hn) rfl (by omega)).more (by simp), WA _, GA _⟩
        | 25, hio =>
          cases hio
          exact wp_val (v := .pointer (some ⟨w.heap.size, 1, none⟩)) (w' := W) (by simp [execOp, Act.eval, t1, go_sem]) ⟨_, rfl, rfl, hW, Gr.refl _⟩
        | 26, hio =>
          cases hio
          have p := hpre ⟨25, .data⟩ (by simp) (by rfl) _ _ rfl rfl
          exact wp_val (v := .string nm) (w' := W) (by simp [execOp, Act.eval, show a.tmps.getD _ undef = _ from p, q1, go_sem]) ⟨_, rfl, rfl, hW, Gr.refl _⟩
        | 27, hio =>
          cases hio
          have p := hpre ⟨26, .data⟩ (by simp) (by rfl) _ _ rfl rfl
          refine wp_val (v := .slice (some ⟨W.heap.size, 0, none⟩) nm.size (grownCap W nm.size 0 5)) (w' := W.drew.alloc (.cells (bytesRow nm (grownCap W nm.size 0 5)) 5 ((bytesRow nm (grownCap W nm.size 0 5)).size, (bytesRow nm (grownCap W nm.size 0 5)).size + 1))) (by simp [execOp, Act.eval, show a.tmps.getD _ undef = _ from p, go_sem]; rw [run_bytes_of_string W _ _ _ nm Try.underlying9 Try.underlying22 Try.underlying5]; rfl) ⟨_, rfl, str_bytes W nm _ (by unfold maxLen; omega), (hW.drew).alloc hsz _, Gr.of_below (((Below.refl _ W).drew).alloc (Nat.le_refl _) _)⟩
        | 28, hio =>
          cases hio
          exact wp_val (v := .pointer (some ⟨w.heap.size, 7, none⟩)) (w' := W) (by simp [execOp, Act.eval, t1, go_sem]) ⟨_, rfl, rfl, hW, Gr.refl _⟩
        | 29, hio =>
          cases hio
          have p := hpre ⟨28, .data⟩ (by simp) (by rfl) _ _ rfl rfl
          exact wp_val (v := .slice ao m.length cap) (w' := W) (by simp [execOp, Act.eval, show a.tmps.getD _ undef = _ from p, q7, go_sem]) ⟨_, rfl, rfl, hW, Gr.refl _⟩
        | 30, hio =>
          cases hio
          have p := hpre ⟨29, .data⟩ (by simp) (by rfl) _ _ rfl rfl
          exact wp_val (v := .int .i64 (m.length : Nat)) (w' := W) (by simp [execOp, Act.eval, show a.tmps.getD _ undef = _ from p, go_sem]) ⟨_, rfl, rfl, hW, Gr.refl _⟩
        | 31, hio =>
          cases hio
          have p := hpre ⟨30, .data⟩ (by simp) (by rfl) _ _ rfl rfl
          refine wp_enter (f := 111) (args := #[.int .i64 (m.length : Nat)]) (by simp [execOp, Act.eval, show a.tmps.getD _ undef = _ from p, go_sem]) ?_
          refine (rtwo_any m.length W hm2).mono ?_
          rintro e w' ⟨rfl, rfl⟩
          exact ⟨_, rfl, _, rfl, (lit_bytes W (b2 m.length) _ (0, 0) 2 _ rfl (b2_toList m.length hm2) rfl (by omega)).more (by simp), WA _, GA _⟩
        | 32, hio =>
          cases hio
          exact wp_val (v := .pointer (some ⟨w.heap.size, 7, none⟩)) (w' := W) (by simp [execOp, Act.eval, t1, go_sem]) ⟨_, rfl, rfl, hW, Gr.refl _⟩
        | 33, hio =>
          cases hio
          have p := hpre ⟨32, .data⟩ (by simp) (by rfl) _ _ rfl rfl
          exact wp_val (v := .slice ao m.length cap) (w' := W) (by simp [execOp, Act.eval, show a.tmps.getD _ undef = _ from p, q7, go_sem]) ⟨_, rfl, ⟨rfl, slB W rfl hW⟩, hW, Gr.refl _⟩
        | 34, hio =>
          cases hio
          have p1 := hpre ⟨1, .data⟩ (by simp) (by rfl) _ _ rfl rfl
          obtain ⟨ao1, cap1, e1, -⟩ := id p1
          have f1 : a.tmps[8]?.getD undef = .slice ao1 headB.length cap1 := (Array.getD_eq_getD_getElem? ..).symm.trans e1
          rw [e1] at p1
          have p2 := hpre ⟨2, .data⟩ (by simp) (by rfl) _ _ rfl rfl
          obtain ⟨ao2, cap2, e2, -⟩ := id p2
          have f2 : a.tmps[9]?.getD undef = .slice ao2 [(1:UInt8)].length cap2 := (Array.getD_eq_getD_getElem? ..).symm.trans e2
          rw [e2] at p2
          have p5 := hpre ⟨5, .data⟩ (by simp) (by rfl) _ _ rfl rfl
          obtain ⟨ao5, cap5, e5, -⟩ := id p5
          have f5 : a.tmps[12]?.getD undef = .slice ao5 (b2 src).length cap5 := (Array.getD_eq_getD_getElem? ..).symm.trans e5
          rw [e5] at p5
          have p15 := hpre ⟨15, .data⟩ (by simp) (by rfl) _ _ rfl rfl
          obtain ⟨ao15, cap15, e15, -⟩ := id p15
          have f15 : a.tmps[22]?.getD undef = .slice ao15 (mid3 pri seq uni).length cap15 := (Array.getD_eq_getD_getElem? ..).symm.trans e15
          rw [e15] at p15
          have p18 := hpre ⟨18, .data⟩ (by simp) (by rfl) _ _ rfl rfl
          obtain ⟨ao18, cap18, e18, -⟩ := id p18
          have f18 : a.tmps[25]?.getD undef = .slice ao18 (b2 syn).length cap18 := (Array.getD_eq_getD_getElem? ..).symm.trans e18
          rw [e18] at p18
          have p24 := hpre ⟨24, .data⟩ (by simp) (by rfl) _ _ rfl rfl
          obtain ⟨ao24, cap24, e24, -⟩ := id p24
          have f24 : a.tmps[31]?.getD undef = .slice ao24 (flg false nm.size).length cap24 := (Array.getD_eq_getD_getElem? ..).symm.trans e24
          rw [e24] at p24
          have p27 := hpre ⟨27, .data⟩ (by simp) (by rfl) _ _ rfl rfl
          obtain ⟨ao27, cap27, e27, -⟩ := id p27
          have f27 : a.tmps[34]?.getD undef = .slice ao27 nm.data.toList.length cap27 := (Array.getD_eq_getD_getElem? ..).symm.trans e27
          rw [e27] at p27
          have p31 := hpre ⟨31, .data⟩ (by simp) (by rfl) _ _ rfl rfl
          obtain ⟨ao31, cap31, e31, -⟩ := id p31
          have f31 : a.tmps[38]?.getD undef = .slice ao31 (b2 m.length).length cap31 := (Array.getD_eq_getD_getElem? ..).symm.trans e31
          rw [e31] at p31
          have p33 := (hpre ⟨33, .data⟩ (by simp) (by rfl) _ _ rfl rfl).2
          obtain ⟨ao33, cap33, e33, -⟩ := id p33
          have f33 : a.tmps[40]?.getD undef = .slice ao33 m.length cap33 := (Array.getD_eq_getD_getElem? ..).symm.trans e33
          rw [e33] at p33
          refine wp_val (v := .slice (some ⟨W.heap.size, 0, none⟩) 9 9) (w' := W.alloc (.cells #[.slice ao1 headB.length cap1, .slice ao2 [(1:UInt8)].length cap2, .slice ao5 (b2 src).length cap5, .slice ao15 (mid3 pri seq uni).length cap15, .slice ao18 (b2 syn).length cap18, .slice ao24 (flg false nm.size).length cap24, .slice ao27 nm.data.toList.length cap27, .slice ao31 (b2 m.length).length cap31, .slice ao33 m.length cap33] 22)) (by simp only [execOp, Act.eval]; simp [f1, f2, f5, f15, f18, f24, f27, f31, f33, go_sem]) ⟨_, rfl, ⟨W.heap.size, W.heap.size, rfl, by simp, partsN rfl (Nat.le_refl _) ?_⟩, WA _, GA _⟩
          · intro i hi
            match i, hi with
            | 0, _ => exact ⟨_, rfl, p1⟩
            | 1, _ => exact ⟨_, rfl, p2⟩
            | 2, _ => exact ⟨_, rfl, p5⟩
            | 3, _ => exact ⟨_, rfl, p15⟩
            | 4, _ => exact ⟨_, rfl, p18⟩
            | 5, _ => exact ⟨_, rfl, p24⟩
            | 6, _ => exact ⟨_, rfl, p27⟩
            | 7, _ => exact ⟨_, rfl, p31⟩
            | 8, _ => exact ⟨_, rfl, p33⟩
        | 35, hio =>
          cases hio
          obtain ⟨g, B', pv, hB', hp⟩ := hpre ⟨34, .data⟩ (by simp) (by rfl) _ _ rfl rfl
          refine wp_enter (f := 110) (args := #[.slice (some ⟨g, 0, none⟩) 9 9]) (by simp [execOp, Act.eval, pv, go_sem]) ?_
          refine (concat_any B' g 9 _ W rfl hB' (by simp [headB, b2, mid3, flg]; omega) (by omega) hp).mono ?_
          rintro e w' ⟨v, rfl, ho, hb⟩
          exact ⟨_, rfl, _, rfl, own_less (own_to (body_flat src pri seq uni syn false nm m) ho) (by simpa using hsz), hW.trans (hb.mono hsz), Gr.of_below hb⟩
        | 36, hio =>
          cases hio
          have p := hpre ⟨35, .data⟩ (by simp) (by rfl) _ _ rfl rfl
          exact wp_val (v := a.tmps.getD 42 undef) (w' := W) (by simp [execOp, Act.eval, go_sem]) ⟨_, rfl, p, hW, Gr.refl _⟩
      · rintro ⟨t, d⟩ W ⟨hs, hd, hk⟩ hW hφ
        have f4 := hφ 36 _ _ rfl rfl
        have hs' : t.size = 48 := hs
        have hd' : d = [] := hd
        subst hd'
        have n0 : t.getD 0 undef = _ := (hk 0 (not_of (by kernel_rfl))).trans rfl
        have n1 : t.getD 1 undef = _ := (hk 1 (not_of (by kernel_rfl))).trans rfl
        have n2 : t.getD 2 undef = _ := (hk 2 (not_of (by kernel_rfl))).trans rfl
        have n3 : t.getD 3 undef = _ := (hk 3 (not_of (by kernel_rfl))).trans rfl
        have n5 : t.getD 5 undef = _ := (hk 5 (not_of (by kernel_rfl))).trans rfl
        have n6 : t.getD 6 undef = _ := (hk 6 (not_of (by kernel_rfl))).trans rfl
        have n43 : t.getD 43 undef = _ := (hk 43 (not_of (by kernel_rfl))).trans rfl
        have n44 : t.getD 44 undef = _ := (hk 44 (not_of (by kernel_rfl))).trans rfl
        have n45 : t.getD 45 undef = _ := (hk 45 (not_of (by kernel_rfl))).trans rfl
        have n46 : t.getD 46 undef = _ := (hk 46 (not_of (by kernel_rfl))).trans rfl
        have n47 : t.getD 47 undef = _ := (hk 47 (not_of (by kernel_rfl))).trans rfl
        have hW' : Below (pkW w src nm pri seq uni syn false (.slice ao m.length cap)).heap.size (pkW w src nm pri seq uni syn false (.slice ao m.length cap)) W := hW.mono (by simp)
        clear hφ hk hs hd
        go_wp2_with fail
        refine Met.intro ?_
        go_step
        (repeat apply Exists.intro)
        refine ⟨?rel, ?eq⟩
        case eq => exact act_eq (arr_lit t 48 hs') (cons_eq n0 (cons_eq n1 (cons_eq n2 (cons_eq n3 (cons_eq rfl (cons_eq n5 (cons_eq n6 (cons_eq rfl (cons_eq rfl (cons_eq rfl (cons_eq rfl (cons_eq rfl (cons_eq rfl (cons_eq rfl (cons_eq rfl (cons_eq rfl (cons_eq rfl (cons_eq rfl (cons_eq rfl (cons_eq rfl (cons_eq rfl (cons_eq rfl (cons_eq rfl (cons_eq rfl (cons_eq rfl (cons_eq rfl (cons_eq rfl (cons_eq rfl (cons_eq rfl (cons_eq rfl (cons_eq rfl (cons_eq rfl (cons_eq rfl (cons_eq rfl (cons_eq rfl (cons_eq rfl (cons_eq rfl (cons_eq rfl (cons_eq rfl (cons_eq rfl (cons_eq rfl (cons_eq rfl (cons_eq rfl (cons_eq n43 (cons_eq n44 (cons_eq n45 (cons_eq n46 (cons_eq n47 rfl))))))))))))))))))))))))))))))))))))))))))))))))
        case rel => exact ⟨f4, hW'⟩
    case rest =>
      obtain ⟨ho1, hB1⟩ := hcut
      have hz0 : (pkW w src nm pri seq uni syn false (.slice ao m.length cap)).heap.size = w.heap.size + 1 := by simp
      rw [hz0] at ho1 hB1
      have hsz := hB1.size
      rw [hz0] at hsz
      have hl9 : (bodyP src pri seq uni syn false nm.data.toList m).length ≤ 1000 := by
        have : nm.data.toList.length = nm.size := by simp
        simp only [bodyP, headB, b2, mid3, flg, List.length_append, List.length_cons, List.length_nil]
        omega
      have HE := Lib.hid (show encP src pri seq uni syn false nm.data.toList m = bodyP src pri seq uni syn false nm.data.toList m ++ b2 (crc (bodyP src pri seq uni syn false nm.data.toList m)) from rfl)
      have hci := crc_lt (bodyP src pri seq uni syn false nm.data.toList m)
      have HO1 := Lib.hid ho1
      have HB1 := Lib.hid hB1
      clear ho1 hB1
      generalize bodyP src pri seq uni syn false nm.data.toList m = x at *
      have SM := Lib.hid (refSumV _ x wc ((ByS.of_own HO1.out).bytesV (Nat.le_refl _)))
      generalize hc0 : crc x = c at *
      clear hc0
      obtain ⟨i0, hi, hz0, hz1, hz2⟩ := info_parts byte_info
      have Hi := Lib.hid hi
      have Hz0 := Lib.hid hz0
      have Hz1 := Lib.hid hz1
      have Hz2 := Lib.hid hz2
      clear hi hz0 hz1 hz2
      go_wp2_with fail
      refine SM.out.mono ?_
      rintro e w2 ⟨rfl, rfl⟩
      go_wp2_with fail
      refine (rtwo_any c _ (by omega)).mono ?_
      rintro e w2 ⟨rfl, rfl⟩
      go_wp2_with (at_builtin; refine wpList_append_own _ rfl _ _ 22 rfl (w.heap.size + 1) 5 i0 (.int .u8 0) 1 1 Try.underlying22 Hi.out Hz0.out Hz1.out Hz2.out rfl (by omega) u4 x.length (bcells x) rfl (HO1.out.alloc _) ⟨wc.heap.size, 0, none⟩ 2 2 (bcells (b2 c)) rfl (by rw [bcells_len]; rfl) (two_cells wc c (by omega) _ rfl) (bcells_one _) (by unfold maxLen; omega) (by omega) (by simp; omega) ?_; intro v' w2 hown hgrow _)
      rw [← bcells_append] at hown
      go_ret
      exact ⟨v', rfl, by rw [HE.out]; exact ByS.of_own hown, ((Below.refl _ w).alloc (Nat.le_refl _) _).trans ((below_own HB1.out HO1.out (grown_after_alloc hgrow) (Nat.le_refl _) hsz).mono (by omega))⟩
end Go.Proofs.Ytfipkljefmfhmaa
