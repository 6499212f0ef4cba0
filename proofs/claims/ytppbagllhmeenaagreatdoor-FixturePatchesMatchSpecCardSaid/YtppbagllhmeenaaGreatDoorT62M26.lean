/- fixture's free and take. (printed by wip/gen/gen_slots.py) -/
import Derived.Test.YtppbagllhmeenaaGreatDoorT62M18
import Derived.Deep.DeepCutAuto
import Derived.WalkSpells

namespace Go.Proofs.YtppbagllhmeenaaGreatDoor
open Go.RowKit
set_option linter.unusedVariables false
set_option linter.unusedSimpArgs false

set_option maxRecDepth 100000 in
set_option maxHeartbeats 4000000 in
theorem free_ptr (g : Nat) (m : Int → Bool) (a s : Int) (w : World) (h : SlotsAt w g m) (hg : g < w.heap.size) (h1 : 0 ≤ a) (h2 : a ≤ 100000) (h3 : 0 ≤ s) (h4 : s ≤ 100000) :
    Calls Tryz.prog 48 #[.pointer (some ⟨g, 0, none⟩), .int .i64 a, .int .i64 s] w fun e w' => e = .returned (.bool (freeN m a s.toNat)) ∧ w = w' := by
  have HS := Lib.hid h
  obtain ⟨a, rfl⟩ : ∃ n : Nat, a = (n : Int) := ⟨a.toNat, by omega⟩
  obtain ⟨s, rfl⟩ : ∃ n : Nat, s = (n : Int) := ⟨s.toNat, by omega⟩
  have HR0 := Lib.hid (show freeN m a (s : Int).toNat = freeN m a (a + s - a) by rw [show (s : Int).toNat = a + s - a by omega])
  have HST := Lib.hid (show ∀ k : Nat, k < a + s → freeN m k (a + s - k) = (decide ((k : Int) ≤ 512) && (!m k && freeN m ((k + 1 : Nat) : Int) (a + s - (k + 1)))) from fun k hk => by
    rw [show a + s - k = (a + s - (k + 1)) + 1 by omega]; rfl)
  have HEN := Lib.hid (show ∀ k : Nat, a + s ≤ k → freeN m k (a + s - k) = true from fun k hk => by rw [show a + s - k = 0 by omega]; rfl)
  generalize freeN m a (s : Int).toNat = RES at *
  clear h
  go_enter Tryz.func48, Tryz.ntmps48
  go_wp2_with fail
  go_loopw [7] (fun i wr => ∃ k : Nat, a ≤ k ∧ k ≤ a + s ∧ i = .int .i64 k ∧ Hid (RES = freeN m k (a + s - k)) ∧ w = wr) (fun i _ => (a + s - (intOf i).toNat))
  case atStart => exact ⟨a, Nat.le_refl _, by omega, rfl, HR0, rfl⟩
  case round =>
    obtain ⟨k, hk1, hk2, rfl, HR, rfl⟩ := hrel
    by_cases hlt : k < a + s
    · have HX := Lib.hid (HR.out.trans (HST.out k hlt))
      by_cases hk5 : (512 : Int) < k
      · have HV := Lib.hid (show RES = false by rw [HX.out]; simp; omega)
        go_wp2_with fail
        go_ret
        exact ⟨by rw [HV.out] <;> rfl, rfl⟩
      · obtain ⟨e1, e2⟩ := HS.out k (by omega)
        have hk6 : (k : Int) < 513 := by omega
        have hk7 : decide ((512 : Int) < k) = false := by simp; omega
        have hk8 : decide ((k : Int) ≤ 512) = true := by simp; omega
        have HY := Lib.hid (show RES = (!m k && freeN m ((k + 1 : Nat) : Int) (a + s - (k + 1))) by rw [HX.out, hk8]; rfl)
        clear e2 hk5 hk8
        generalize m k = mk at *
        cases mk
        · have HV := Lib.hid (show RES = freeN m ((k + 1 : Nat) : Int) (a + s - (k + 1)) by rw [HY.out]; rfl)
          go_wp2_with fail
          go_roundw
          case rel => exact ⟨k + 1, by omega, by omega, by go_num, HV, by first | trivial | rfl⟩
          case measure => simp [intOf]; omega
        · have HV := Lib.hid (show RES = false by rw [HY.out]; rfl)
          go_wp2_with fail
          go_ret
          exact ⟨by rw [HV.out] <;> rfl, rfl⟩
    · have HV := Lib.hid (show RES = true by rw [HR.out, HEN.out k (by omega)])
      go_wp2_with fail
      go_ret
      exact ⟨by rw [HV.out] <;> rfl, rfl⟩
set_option maxHeartbeats 400000 in
theorem free_nil (a s : Int) (w : World) (h1 : 0 ≤ a) (h2 : a ≤ 100000) (h3 : 0 ≤ s) (h4 : s ≤ 100000) :
    Calls Tryz.prog 48 #[.pointer none, .int .i64 a, .int .i64 s] w fun e w' => e = .returned (.bool (decide (a + s - 1 ≤ 512))) ∧ w = w' := by
  go_enter Tryz.func48, Tryz.ntmps48
  go_wp2_with fail
  go_ret
  exact ⟨rfl, rfl⟩
def slotZ : Array Value := Array.replicate 513 (.bool false)
theorem slotZ_get (j : Nat) (h : j < 513) : slotZ[j]? = some (.bool false) := by
  unfold slotZ
  rw [Array.getElem?_replicate, if_pos h]
theorem zeroSlots_ (w : World) : (zeroValue 121).run Tryz.prog w = .ok (.agg slotZ) w := by kernel_rfl
theorem slots_new (w : World) (t : TypeId) : SlotsAt (w.alloc (.cells slotZ t)) w.heap.size (fun _ => false) := fun j hj => by
  have h := slotZ_get j (by omega)
  constructor
  · simp [go_sem, h]
  · simp [go_sem]
theorem zeroPtr_ (w : World) : (zeroValue 98).run Tryz.prog w = .ok (.pointer none) w := by kernel_rfl
set_option maxRecDepth 100000 in
set_option maxHeartbeats 8000000 in
theorem take_old (base mb g : Nat) (us : List (Unt × Int)) (un : Int) (up : ByteArray) (uu : Int) (ua s : Nat) (w : World) (n : Nat) (f : Lit → Option Value) (hn : n ≤ us.length) (hM : MapM w Tryz.prog 3 mb n f) (hU : ∀ U, UsedU base w mb us f U)
    (hI : ∀ U V g, f (.int .i64 U) = some (ptrV g) → f (.int .i64 V) = some (ptrV g) → U = V) (hf : f (.int .i64 uu) = some (ptrV g)) (hbg : base ≤ g) (hgm : g ≠ mb) (hgl : g < w.heap.size) (hS : SlotsAt w g (usedB us uu)) (hmb : base ≤ mb)
    (huu : I64 uu) (ha : 1 ≤ ua) (has : ua + s ≤ 513) :
    Calls Tryz.prog 49 #[.map (some mb), .agg #[.int .i64 un, .string up, .int .i64 uu, .int .i64 ua], .int .i64 s] w fun e w' => e = .returned (.tuple #[]) ∧ UsedS base w' mb (us ++ [((⟨un, up, uu, ua⟩ : Unt), (s : Int))]) ∧ Below base w w' := by
  have hM1 : MapM (w.alloc (.cells #[.int .i64 un, .string up, .int .i64 uu, .int .i64 ua] 51)) Tryz.prog 3 mb n f := hM.kept (World.grownBy_alloc _ _ none) (by simp)
  have hS1 : SlotsAt (w.alloc (.cells #[.int .i64 un, .string up, .int .i64 uu, .int .i64 ua] 51)) g (usedB us uu) := hS.same (Below.heap_alloc _ _ _ hgl)
  have hmbl := hM.lt
  have hq0 : (Instr.lookup 94 (.map (some mb)) (.int .i64 uu) false).run Tryz.prog (w.alloc (.cells #[.int .i64 un, .string up, .int .i64 uu, .int .i64 ua] 51)) = .ok (.pointer (some ⟨g, 0, none⟩)) (w.alloc (.cells #[.int .i64 un, .string up, .int .i64 uu, .int .i64 ua] 51)) := by
    have := hM1.look false keyI_ (t := 94) Tryz.underlying94 (zeroPtr_ _) (keyOfI_ huu)
    rw [hf] at this
    exact this
  obtain ⟨MK, HM0, HMK, HSTEP, HEND⟩ : ∃ MK : World → Nat → Prop, Hid (MK (w.alloc (.cells #[.int .i64 un, .string up, .int .i64 uu, .int .i64 ua] 51)) ua) ∧ Hid (∀ wr k, MK wr k → (Instr.lookup 94 (.map (some mb)) (.int .i64 uu) false).run Tryz.prog wr = .ok (.pointer (some ⟨g, 0, none⟩)) wr ∧ (k ≤ 512 → wr.cell? ⟨g, k, none⟩ = some (.bool (markK (usedB us uu) ua k k)) ∧ wr.frozen? ⟨g, k, none⟩ = false) ∧ wr.cell? ⟨w.heap.size, 2, none⟩ = some (.int .i64 uu) ∧ wr.cell? ⟨w.heap.size, 3, none⟩ = some (.int .i64 ua) ∧ g < wr.heap.size ∧ w.heap.size < wr.heap.size) ∧ Hid (∀ wr k, k < ua + s → ua ≤ k → MK wr k → MK (wr.setCell ⟨g, k, none⟩ (.bool true)) (k + 1)) ∧ Hid (∀ wr, MK wr (ua + s) → UsedS base wr mb (us ++ [((⟨un, up, uu, ua⟩ : Unt), (s : Int))]) ∧ Below base w wr) := by
    refine ⟨fun wr k => wr.heap.size = (w.alloc (.cells #[.int .i64 un, .string up, .int .i64 uu, .int .i64 ua] 51)).heap.size ∧ (∀ b, b ≠ g → wr.heap[b]? = (w.alloc (.cells #[.int .i64 un, .string up, .int .i64 uu, .int .i64 ua] 51)).heap[b]?) ∧ SlotsAt wr g (markK (usedB us uu) ua k) ∧ Below base w wr, Lib.hid ⟨rfl, fun _ _ => rfl, hS1.cast (fun j => markK_start _ _ _), (Below.refl _ _).alloc (by omega) _⟩, Lib.hid ?_, Lib.hid ?_, Lib.hid ?_⟩
    · rintro wr k ⟨h1, h2, h3, h4⟩
      have hq := (hM1.same (h2 mb (Ne.symm hgm))).look false keyI_ (t := 94) Tryz.underlying94 (zeroPtr_ _) (keyOfI_ huu)
      rw [hf] at hq
      simp only [World.size_alloc] at h1
      refine ⟨hq, fun hk => h3 k hk, (World.cell?_of_block (a := ⟨w.heap.size, 2, none⟩) (h2 w.heap.size (by omega))).trans (by simp [go_sem]), (World.cell?_of_block (a := ⟨w.heap.size, 3, none⟩) (h2 w.heap.size (by omega))).trans (by simp [go_sem]), by omega, by omega⟩
    · rintro wr k hk1 hk2 ⟨h1, h2, h3, h4⟩
      exact ⟨by simpa using h1, fun b hb => (Below.heap_setCell _ _ _ _ (by simpa using hb)).trans (h2 b hb), h3.mark (by omega), h4.setCell (by simpa using hbg) _⟩
    · rintro wr ⟨h1, h2, h3, h4⟩
      simp only [World.size_alloc] at h1
      refine ⟨UsedS.more_old (u := ⟨un, up, uu, ua⟩) (s := s) hn hM hU hI hf (by omega) hgm hbg (by omega) (fun b hb hl => (h2 b hb).trans (Below.heap_alloc _ _ _ hl)) (h3.cast (fun j => by simp)), h4⟩
  clear hM hU hI hS hM1 hS1
  go_enter Tryz.func49, Tryz.ntmps49
  go_wp2_with fail
  clear hq0
  go_loopw [6] (fun i wr => ∃ k : Nat, ua ≤ k ∧ k ≤ ua + s ∧ i = .int .i64 k ∧ Hid (MK wr k)) (fun i _ => ua + s - (intOf i).toNat)
  case atStart => exact ⟨ua, Nat.le_refl _, by omega, rfl, HM0⟩
  case round =>
    obtain ⟨k, hk1, hk2, rfl, HK⟩ := hrel
    obtain ⟨hq, hsl, p2, p3, hgr, hbr⟩ := HMK.out wr k HK.out
    by_cases hlt : k < ua + s
    · obtain ⟨e1, e2⟩ := hsl (by omega)
      have HN := Lib.hid (HSTEP.out wr k hlt hk1 HK.out)
      have hk6 : (k : Int) < 513 := by omega
      clear hsl
      go_wp2_with fail
      go_roundw
      case rel => exact ⟨k + 1, by omega, by omega, by go_num, HN⟩
      case measure => simp [intOf]; omega
    · have hkk : k = ua + s := by omega
      subst hkk
      have HE := Lib.hid (HEND.out wr HK.out)
      clear hsl
      go_wp2_with fail
      go_end0
      exact ⟨rfl, HE.out⟩
set_option maxRecDepth 100000 in
set_option maxHeartbeats 8000000 in
theorem take_new (base mb : Nat) (us : List (Unt × Int)) (un : Int) (up : ByteArray) (uu : Int) (ua s : Nat) (w : World) (n : Nat) (f : Lit → Option Value) (hn : n ≤ us.length) (hM : MapM w Tryz.prog 3 mb n f) (hU : ∀ U, UsedU base w mb us f U)
    (hI : ∀ U V g, f (.int .i64 U) = some (ptrV g) → f (.int .i64 V) = some (ptrV g) → U = V) (hf : f (.int .i64 uu) = none) (hl : us.length ≤ 100000) (hmb : base ≤ mb)
    (huu : I64 uu) (ha : 1 ≤ ua) (has : ua + s ≤ 513) :
    Calls Tryz.prog 49 #[.map (some mb), .agg #[.int .i64 un, .string up, .int .i64 uu, .int .i64 ua], .int .i64 s] w fun e w' => e = .returned (.tuple #[]) ∧ UsedS base w' mb (us ++ [((⟨un, up, uu, ua⟩ : Unt), (s : Int))]) ∧ Below base w w' := by
  have hM1 : MapM (w.alloc (.cells #[.int .i64 un, .string up, .int .i64 uu, .int .i64 ua] 51)) Tryz.prog 3 mb n f := hM.kept (World.grownBy_alloc _ _ none) (by simp)
  have hM2 : MapM ((w.alloc (.cells #[.int .i64 un, .string up, .int .i64 uu, .int .i64 ua] 51)).alloc (.cells slotZ 121)) Tryz.prog 3 mb n f := hM1.kept (World.grownBy_alloc _ _ none) (by simp)
  have hmbl := hM.lt
  have hq0 : (Instr.lookup 94 (.map (some mb)) (.int .i64 uu) false).run Tryz.prog (w.alloc (.cells #[.int .i64 un, .string up, .int .i64 uu, .int .i64 ua] 51)) = .ok (.pointer none) (w.alloc (.cells #[.int .i64 un, .string up, .int .i64 uu, .int .i64 ua] 51)) := by
    have := hM1.look false keyI_ (t := 94) Tryz.underlying94 (zeroPtr_ _) (keyOfI_ huu)
    rw [hf] at this
    exact this
  obtain ⟨w3, hu3, hM3, hg3⟩ := hM2.update keyI_ (t := 94) Tryz.underlying94 (by unfold maxLen; omega) (keyOfI_ huu) (val := .pointer (some ⟨w.heap.size + 1, 0, none⟩))
  have hz3 := hg3.size
  simp only [World.size_alloc] at hz3
  have hS3 : SlotsAt w3 (w.heap.size + 1) (fun _ => false) := by
    have := slots_new (w.alloc (.cells #[.int .i64 un, .string up, .int .i64 uu, .int .i64 ua] 51)) 121
    simp only [World.size_alloc] at this
    exact this.same (hg3.block _ (by simp) (by intro e; injection e with e; omega))
  have hzs := zeroSlots_
  obtain ⟨MK, HM0, HMK, HSTEP, HEND⟩ : ∃ MK : World → Nat → Prop, Hid (MK w3 ua) ∧ Hid (∀ wr k, MK wr k → (Instr.lookup 94 (.map (some mb)) (.int .i64 uu) false).run Tryz.prog wr = .ok (.pointer (some ⟨(w.heap.size + 1), 0, none⟩)) wr ∧ (k ≤ 512 → wr.cell? ⟨(w.heap.size + 1), k, none⟩ = some (.bool (markK (fun _ => false) ua k k)) ∧ wr.frozen? ⟨(w.heap.size + 1), k, none⟩ = false) ∧ wr.cell? ⟨w.heap.size, 2, none⟩ = some (.int .i64 uu) ∧ wr.cell? ⟨w.heap.size, 3, none⟩ = some (.int .i64 ua) ∧ (w.heap.size + 1) < wr.heap.size ∧ w.heap.size < wr.heap.size) ∧ Hid (∀ wr k, k < ua + s → ua ≤ k → MK wr k → MK (wr.setCell ⟨(w.heap.size + 1), k, none⟩ (.bool true)) (k + 1)) ∧ Hid (∀ wr, MK wr (ua + s) → UsedS base wr mb (us ++ [((⟨un, up, uu, ua⟩ : Unt), (s : Int))]) ∧ Below base w wr) := by
    refine ⟨fun wr k => wr.heap.size = w3.heap.size ∧ (∀ b, b ≠ w.heap.size + 1 → wr.heap[b]? = w3.heap[b]?) ∧ SlotsAt wr (w.heap.size + 1) (markK (fun _ => false) ua k) ∧ Below base w wr, Lib.hid ⟨rfl, fun _ _ => rfl, hS3.cast (fun j => markK_start _ _ _), (((Below.refl base w).alloc (by omega) _).alloc (by simp; omega) _).grown hg3 (by simp; omega) (fun j hj => by cases hj; omega)⟩, Lib.hid ?_, Lib.hid ?_, Lib.hid ?_⟩
    · rintro wr k ⟨h1, h2, h3, h4⟩
      have hq := (hM3.same (h2 mb (by omega))).look false keyI_ (t := 94) Tryz.underlying94 (zeroPtr_ _) (keyOfI_ huu)
      rw [putF_same (keyLitI_ _)] at hq
      have hbx : ∀ o, wr.cell? ⟨w.heap.size, o, none⟩ = ((w.alloc (.cells #[.int .i64 un, .string up, .int .i64 uu, .int .i64 ua] 51)).alloc (.cells slotZ 121)).cell? ⟨w.heap.size, o, none⟩ := fun o => (World.cell?_of_block (a := ⟨w.heap.size, o, none⟩) (h2 w.heap.size (by omega))).trans (grown_cell hg3 (by simp; omega) (by omega))
      exact ⟨hq, fun hk => h3 k hk, (hbx 2).trans (by simp [go_sem]), (hbx 3).trans (by simp [go_sem]), by omega, by omega⟩
    · rintro wr k hk1 hk2 ⟨h1, h2, h3, h4⟩
      exact ⟨by simpa using h1, fun b hb => (Below.heap_setCell _ _ _ _ (by simpa using hb)).trans (h2 b hb), h3.mark (by omega), h4.setCell (by simp; omega) _⟩
    · rintro wr ⟨h1, h2, h3, h4⟩
      refine ⟨UsedS.more_new (u := ⟨un, up, uu, ua⟩) (s := s) (g := w.heap.size + 1) hn hU hI hf (by omega) (by omega) (by omega) (by omega) (by omega) (fun b hb hl => (h2 b (by omega)).trans ((hg3.block _ (by simp; omega) (by intro e; injection e with e; exact hb e)).trans ((Below.heap_alloc _ _ _ (by simp; omega)).trans (Below.heap_alloc _ _ _ hl)))) (hM3.same (h2 mb (by omega))) (h3.cast (fun j => by simp)), h4⟩
  have e3 : w3.cell? ⟨w.heap.size, 3, none⟩ = some (.int .i64 ua) := (grown_cell hg3 (by simp; omega) (by omega)).trans (by simp [go_sem])
  have hbr3 : w.heap.size < w3.heap.size := by omega
  clear hM hU hI hM1 hM2 hM3 hS3 hg3
  go_enter Tryz.func49, Tryz.ntmps49
  go_wp2_with fail
  clear hq0 hu3 hzs e3
  go_loopw [6] (fun i wr => ∃ k : Nat, ua ≤ k ∧ k ≤ ua + s ∧ i = .int .i64 k ∧ Hid (MK wr k)) (fun i _ => ua + s - (intOf i).toNat)
  case atStart => exact ⟨ua, Nat.le_refl _, by omega, rfl, HM0⟩
  case round =>
    obtain ⟨k, hk1, hk2, rfl, HK⟩ := hrel
    obtain ⟨hq, hsl, p2, p3, hgr, hbr⟩ := HMK.out wr k HK.out
    by_cases hlt : k < ua + s
    · obtain ⟨e1, e2⟩ := hsl (by omega)
      have HN := Lib.hid (HSTEP.out wr k hlt hk1 HK.out)
      have hk6 : (k : Int) < 513 := by omega
      clear hsl
      go_wp2_with fail
      go_roundw
      case rel => exact ⟨k + 1, by omega, by omega, by go_num, HN⟩
      case measure => simp [intOf]; omega
    · have hkk : k = ua + s := by omega
      subst hkk
      have HE := Lib.hid (HEND.out wr HK.out)
      clear hsl
      go_wp2_with fail
      go_end0
      exact ⟨rfl, HE.out⟩
theorem take_any (base mb : Nat) (us : List (Unt × Int)) (u : Unt) (s : Int) (w : World) (h : UsedS base w mb us) (hl : us.length ≤ 100000) (hmb : base ≤ mb) (huu : I64 u.univ) (ha : 1 ≤ u.addr) (hs : 0 ≤ s) (has : u.addr + s - 1 ≤ 512) :
    Calls Tryz.prog 49 #[.map (some mb), .agg #[.int .i64 u.num, .string u.prof, .int .i64 u.univ, .int .i64 u.addr], .int .i64 s] w fun e w' => e = .returned (.tuple #[]) ∧ UsedS base w' mb (us ++ [(u, s)]) ∧ Below base w w' := by
  obtain ⟨un, up, uu, ua⟩ := u
  simp only at *
  obtain ⟨a, rfl⟩ : ∃ n : Nat, ua = (n : Int) := ⟨ua.toNat, by omega⟩
  obtain ⟨b, rfl⟩ : ∃ n : Nat, s = (n : Int) := ⟨s.toNat, by omega⟩
  obtain ⟨n, f, hn, hM, hU, hI⟩ := h
  rcases hU uu with ⟨hf, _⟩ | ⟨g, hf, hbg, hgm, hgl, hS⟩
  · exact take_new base mb us un up uu a b w n f hn hM hU hI hf hl hmb huu (by omega) (by omega)
  · exact take_old base mb g us un up uu a b w n f hn hM hU hI hf hbg hgm hgl hS hmb huu (by omega) (by omega)
end Go.Proofs.YtppbagllhmeenaaGreatDoor
