/- The closure of effect.read: a word and a number behind it. (printed by wip/gen/gen_eread.py) -/
import Derived.Test.YtfidbdegggalmaaGreatDoorT66M19
import Derived.Test.YtfidbdegggalmaaGreatDoorT66M21

namespace Go.Proofs.YtfidbdegggalmaaGreatDoor
open Go.RowKit
set_option linter.unusedVariables false
set_option linter.unusedSimpArgs false

theorem RowS.tail {w : World} {b off : Nat} {a : ByteArray} {l : List ByteArray} (h : RowS w b off (a :: l)) : RowS w b (off + 1) l := fun j hj => by
  have := h (j + 1) (by simp; omega)
  rw [show off + 1 + j = off + (j + 1) by omega]
  simpa using this
theorem RowS.head {w : World} {b off : Nat} {a : ByteArray} {l : List ByteArray} (h : RowS w b off (a :: l)) : w.cell? ⟨b, off, none⟩ = some (.string a) := by
  have := h 0 (by simp)
  simpa using this
/-- what keeps where two boxes are written -/
def KeepX (a b : Nat) (w w' : World) : Prop := (∀ B, B ≤ a → B ≤ b → B ≤ w.heap.size → Below B w w') ∧ (∀ c T ds, c ≠ a → c ≠ b → TBox w c T ds → TBox w' c T ds) ∧ w.heap.size ≤ w'.heap.size
theorem KeepX.of {a b : Nat} {w w' : World} (h : Below w.heap.size w w') : KeepX a b w w' := ⟨fun B _ _ hB => h.mono hB, fun c T ds _ _ hc => hc.below h, h.size⟩
theorem KeepX.trans {a b : Nat} {w w1 w2 : World} (h : KeepX a b w w1) (g : KeepX a b w1 w2) : KeepX a b w w2 :=
  ⟨fun B h1 h2 h3 => (h.1 B h1 h2 h3).trans (g.1 B h1 h2 (Nat.le_trans h3 h.2.2)), fun c T ds h1 h2 hc => g.2.1 c T ds h1 h2 (h.2.1 c T ds h1 h2 hc), Nat.le_trans h.2.2 g.2.2⟩
theorem KeepX.setL {a b : Nat} {w : World} (i : Nat) (v : Value) : KeepX a b w (w.setCell ⟨a, i, none⟩ v) :=
  ⟨fun B h1 _ _ => (Below.refl B w).setCell (p := ⟨a, i, none⟩) h1 v, fun c T ds h1 _ hc => hc.setOther h1 v, by simp⟩
theorem KeepX.setR {a b : Nat} {w : World} (i : Nat) (v : Value) : KeepX a b w (w.setCell ⟨b, i, none⟩ v) :=
  ⟨fun B _ h1 _ => (Below.refl B w).setCell (p := ⟨b, i, none⟩) h1 v, fun c T ds _ h1 hc => hc.setOther h1 v, by simp⟩
def KvPost (word : ByteArray) (R : List ByteArray) (tb eb i wb off cap : Nat) (cs : Array Value) (w : World) (e : Ending) (w' : World) : Prop := match kvW word R with
  | some (n, R1) => e = .returned (.bool true) ∧ (∃ o2, TBox w' tb 32 #[.slice (some ⟨wb, o2, none⟩) R1.length (cap - 2)] ∧ RowS w wb o2 R1) ∧ TBox w' eb 24 (cs.setIfInBounds i (.int .i64 n)) ∧ R.length = R1.length + 2 ∧ (∀ x ∈ R1, x ∈ R) ∧ KeepX tb eb w w'
  | none => e = .returned (.bool false) ∧ (∃ n, TBox w' eb 24 (cs.setIfInBounds i (.int .i64 n))) ∧ KeepX tb eb w w'
theorem kv_call (args : Array Value) (W : World) : Sem.run Tryz.prog (callFunc 22 args) W = .ok (.enter 22 args) W := by simp [go_sem]
theorem set_self {cs : Array Value} {i : Nat} {v : Value} (h : cs[i]? = some v) : cs.setIfInBounds i v = cs := by
  apply Array.ext (by simp)
  intro j h1 h2
  rw [Array.getElem_setIfInBounds]
  split
  · rename_i e
    subst e
    rw [Array.getElem?_eq_getElem h2] at h
    injection h with h
    exact h.symm
  · rfl
set_option maxRecDepth 100000 in
set_option maxHeartbeats 4000000 in
theorem kv_any (word : ByteArray) (R : List ByteArray) (tb eb i wb off cap : Nat) (cs : Array Value) (w : World) (hT : TBox w tb 32 #[.slice (some ⟨wb, off, none⟩) R.length cap]) (hE : TBox w eb 24 cs) (hi : cs[i]? = some (.int .i64 0)) (hR : RowS w wb off R) (hcap : R.length ≤ cap) (hc2 : cap ≤ 100000) (hsz : ∀ x ∈ R, x.size ≤ 9223372036854775807) (h1 : tb ≠ eb) (hwb : wb < w.heap.size) :
    Calls Tryz.prog 22 #[.string word, .pointer (some ⟨eb, i, none⟩), .pointer (some ⟨tb, 0, none⟩)] w (KvPost word R tb eb i wb off cap cs w) := by
  have q0 : w.cell? ⟨tb, 0, none⟩ = some (.slice (some ⟨wb, off, none⟩) R.length cap) := hT.cell (i := 0) rfl
  have ql := hT.lt
  have HT := Lib.hid hT
  have HE := Lib.hid hE
  have HI := Lib.hid hi
  clear hT hE hi
  have short : kvW word R = none → R.length < 2 → Calls Tryz.prog 22 #[.string word, .pointer (some ⟨eb, i, none⟩), .pointer (some ⟨tb, 0, none⟩)] w (KvPost word R tb eb i wb off cap cs w) := by
    intro h0 h2
    have HP := Lib.hid (show ∀ e w', e = .returned (.bool false) → w' = w → KvPost word R tb eb i wb off cap cs w e w' from fun e w' he hw => by
      unfold KvPost
      rw [h0]
      subst he hw
      exact ⟨rfl, ⟨0, by rw [set_self HI.out]; exact HE.out⟩, KeepX.of (Below.refl _ _)⟩)
    have h3 : (R.length : Int) < 2 := by omega
    clear h0 hR
    generalize R.length = n at *
    go_enter Tryz.func22, Tryz.ntmps22
    go_wp2_with fail
    go_ret
    exact HP.out _ _ rfl rfl
  rcases R with _ | ⟨a, _ | ⟨b, R1⟩⟩
  · exact short rfl (by simp)
  · exact short rfl (by simp)
  clear short
  have d0 := hR.head
  have d1 := hR.tail.head
  have HR := Lib.hid hR.tail.tail
  have hb : b.size ≤ 9223372036854775807 := hsz b (by simp)
  have CN := Lib.hid (fun W => number_any b W hb)
  have HP := Lib.hid (show ∀ e w', e = .returned (.bool (if a = word then (nbW b).isSome else false)) → (a = word → ∃ o2, TBox w' tb 32 #[.slice (some ⟨wb, o2, none⟩) R1.length (cap - 2)] ∧ RowS w wb o2 R1) → TBox w' eb 24 (cs.setIfInBounds i (.int .i64 (if a = word then (nbW b).getD 0 else 0))) → KeepX tb eb w w' → KvPost word (a :: b :: R1) tb eb i wb off cap cs w e w' from fun e w' he h2 h3 h4 => by
    unfold KvPost
    rw [show kvW word (a :: b :: R1) = if a = word then (nbW b).map (fun n => (n, R1)) else none from rfl]
    by_cases c : a = word
    · rw [if_pos c] at he h3 ⊢
      cases hn : nbW b with
      | none =>
        rw [hn] at he h3
        exact ⟨he, ⟨_, h3⟩, h4⟩
      | some n =>
        rw [hn] at he h3
        exact ⟨he, h2 c, h3, by simp, fun x hx => by simp [hx], h4⟩
    · rw [if_neg c] at he h3 ⊢
      exact ⟨he, ⟨_, h3⟩, h4⟩)
  simp only [List.length_cons] at *
  have HZ := Lib.hid (show R1.length = 0 → ∀ o2, RowS w wb o2 R1 from fun h o2 j hj => absurd hj (by omega))
  generalize R1.length = n at *
  clear hR hsz hb
  have h3 : ¬ ((n + 1 + 1 : Nat) : Int) < 2 := by omega
  have h4 : ¬ ((n : Int) + 1 + 1 < 2) := by omega
  by_cases c : a = word
  · subst c
    have HP2 := Lib.hid (fun e w' h1 h2 h3 h4 => HP.out e w' (by rw [if_pos rfl]; exact h1) (fun _ => h2) (by rw [if_pos rfl]; exact h3) h4)
    generalize (nbW b).getD 0 = m at *
    generalize (nbW b).isSome = ok at *
    clear HP
    go_enter Tryz.func22, Tryz.ntmps22
    go_wp2_with fail
    refine (CN.out _).mono ?_
    rintro e w1 ⟨rfl, hb⟩
    have HT1 := Lib.hid (HT.out.below hb)
    have HE1 := Lib.hid (HE.out.below hb)
    have HK1 := Lib.hid (KeepX.of (a := tb) (b := eb) hb)
    clear hb d0 d1 q0 ql HT HE CN
    have y0 := HE1.out.cell HI.out
    have z0 := HE1.out.frozen i
    have yl := HE1.out.lt
    go_upto_region 5 with fail
    clear y0 z0 yl
    have HT2 := Lib.hid (HT1.out.setOther (b' := eb) (i := i) h1 (.int .i64 m))
    have HE2 := Lib.hid (HE1.out.set i (.int .i64 m))
    have HK2 := Lib.hid (HK1.out.trans (KeepX.setR i (.int .i64 m)))
    generalize w1.setCell ⟨eb, i, none⟩ (.int .i64 m) = w2 at *
    have q0 := HT2.out.cell (i := 0) rfl
    have ql := HT2.out.lt
    have z0 := HT2.out.frozen 0
    by_cases hc : cap = 2
    · subst hc
      have hn0 : n = 0 := by omega
      subst hn0
      go_upto_region 6 with fail
      clear q0 ql z0
      have HT3 := Lib.hid (HT2.out.set 0 (.slice (some ⟨wb, off, none⟩) 0 0))
      have HE3 := Lib.hid (HE2.out.setOther (b' := tb) (i := 0) (Ne.symm h1) (.slice (some ⟨wb, off, none⟩) 0 0))
      have HK3 := Lib.hid (HK2.out.trans (KeepX.setL 0 (.slice (some ⟨wb, off, none⟩) 0 0)))
      go_wp2_with fail
      go_ret
      exact HP2.out _ _ rfl ⟨_, HT3.out, HZ.out (by trivial) _⟩ HE3.out HK3.out
    · go_upto_region 6 with fail
      clear q0 ql z0
      have HT3 := Lib.hid (HT2.out.set 0 (.slice (some ⟨wb, off + 2, none⟩) n (cap - 2)))
      have HE3 := Lib.hid (HE2.out.setOther (b' := tb) (i := 0) (Ne.symm h1) (.slice (some ⟨wb, off + 2, none⟩) n (cap - 2)))
      have HK3 := Lib.hid (HK2.out.trans (KeepX.setL 0 (.slice (some ⟨wb, off + 2, none⟩) n (cap - 2))))
      go_wp2_with fail
      go_ret
      exact HP2.out _ _ rfl ⟨_, HT3.out, HR.out⟩ HE3.out HK3.out
  · have hne : (a.toList == word.toList) = false := beq_eq_false_iff_ne.2 (fun h => c (ByteArray.ext (Array.toList_inj.1 (by rw [← Lib.toList_data, ← Lib.toList_data]; exact h))))
    have HP2 := Lib.hid (fun e w' h1 h3 h4 => HP.out e w' (by rw [if_neg c]; exact h1) (fun h => absurd h c) (by rw [if_neg c, set_self HI.out]; exact h3) h4)
    clear HP c
    go_enter Tryz.func22, Tryz.ntmps22
    go_wp2_with fail
    go_ret
    exact HP2.out _ _ rfl HE.out (KeepX.of (Below.refl _ _))
end Go.Proofs.YtfidbdegggalmaaGreatDoor
