/- fixture's free and take. (printed by wip/gen/gen_slots.py) fixture.checkRanges: the first fault of named ranges. (printed by wip/gen/gen_ckrng.py) -/
import Derived.Test.YtabalicembhjmaaT33M06
import Derived.Deep.DeepCutAuto
import Derived.WalkSpells
import Derived.Deep.RegionHeld3
import Derived.Deep.QuietTactic
import Derived.BigQuiet

namespace Go.Proofs.Ytabalicembhjmaa
open Go.RowKit
set_option linter.unusedVariables false
set_option linter.unusedSimpArgs false

set_option maxRecDepth 100000 in
set_option maxHeartbeats 4000000 in
theorem free_ptr (g : Nat) (m : Int → Bool) (a s : Int) (w : World) (h : SlotsAt w g m) (hg : g < w.heap.size) (h1 : 0 ≤ a) (h2 : a ≤ 100000) (h3 : 0 ≤ s) (h4 : s ≤ 100000) :
    Calls Try.prog 46 #[.pointer (some ⟨g, 0, none⟩), .int .i64 a, .int .i64 s] w fun e w' => e = .returned (.bool (freeN m a s.toNat)) ∧ w = w' := by
  have HS := Lib.hid h
  obtain ⟨a, rfl⟩ : ∃ n : Nat, a = (n : Int) := ⟨a.toNat, by omega⟩
  obtain ⟨s, rfl⟩ : ∃ n : Nat, s = (n : Int) := ⟨s.toNat, by omega⟩
  have HR0 := Lib.hid (show freeN m a (s : Int).toNat = freeN m a (a + s - a) by rw [show (s : Int).toNat = a + s - a by omega])
  have HST := Lib.hid (show ∀ k : Nat, k < a + s → freeN m k (a + s - k) = (decide ((k : Int) ≤ 512) && (!m k && freeN m ((k + 1 : Nat) : Int) (a + s - (k + 1)))) from fun k hk => by
    rw [show a + s - k = (a + s - (k + 1)) + 1 by omega]; rfl)
  have HEN := Lib.hid (show ∀ k : Nat, a + s ≤ k → freeN m k (a + s - k) = true from fun k hk => by rw [show a + s - k = 0 by omega]; rfl)
  generalize freeN m a (s : Int).toNat = RES at *
  clear h
  go_enter Try.func46, Try.ntmps46
  go_wp2_with fail
  go_loopw [7] (fun i wr => ∃ k : Nat, a ≤ k ∧ k ≤ a + s ∧ i = .int .i64 k ∧ Hid (RES = freeN m k (a + s - k)) ∧ w = wr) (fun i _ => (a + s - (intOf i).toNat))
  case atStart => exact ⟨a, Nat.le_refl _, by omega, rfl, HR0, rfl⟩
  case round =>
    obtain ⟨k, hk1, hk2, rfl, HR, rfl⟩ := hrel
    by_cases hlt : k < a + s
    · have HX := Lib.hid (HR.out.trans (HST.out k hlt))
      by_cases hk5 : (512 : Int) < k
      · have HV := Lib.hid (show RES = false by rw [HX.out]; simp; omega)
        go_wp2_with fail
        go_ret
        exact ⟨by rw [HV.out] <;> rfl, rfl⟩
      · obtain ⟨e1, e2⟩ := HS.out k (by omega)
        have hk6 : (k : Int) < 513 := by omega
        have hk7 : decide ((512 : Int) < k) = false := by simp; omega
        have hk8 : decide ((k : Int) ≤ 512) = true := by simp; omega
        have HY := Lib.hid (show RES = (!m k && freeN m ((k + 1 : Nat) : Int) (a + s - (k + 1))) by rw [HX.out, hk8]; rfl)
        clear e2 hk5 hk8
        generalize m k = mk at *
        cases mk
        · have HV := Lib.hid (show RES = freeN m ((k + 1 : Nat) : Int) (a + s - (k + 1)) by rw [HY.out]; rfl)
          go_wp2_with fail
          go_roundw
          case rel => exact ⟨k + 1, by omega, by omega, by go_num, HV, by first | trivial | rfl⟩
          case measure => simp [intOf]; omega
        · have HV := Lib.hid (show RES = false by rw [HY.out]; rfl)
          go_wp2_with fail
          go_ret
          exact ⟨by rw [HV.out] <;> rfl, rfl⟩
    · have HV := Lib.hid (show RES = true by rw [HR.out, HEN.out k (by omega)])
      go_wp2_with fail
      go_ret
      exact ⟨by rw [HV.out] <;> rfl, rfl⟩
set_option maxHeartbeats 400000 in
theorem free_nil (a s : Int) (w : World) (h1 : 0 ≤ a) (h2 : a ≤ 100000) (h3 : 0 ≤ s) (h4 : s ≤ 100000) :
    Calls Try.prog 46 #[.pointer none, .int .i64 a, .int .i64 s] w fun e w' => e = .returned (.bool (decide (a + s - 1 ≤ 512))) ∧ w = w' := by
  go_enter Try.func46, Try.ntmps46
  go_wp2_with fail
  go_ret
  exact ⟨rfl, rfl⟩
def slotZ : Array Value := Array.replicate 513 (.bool false)
theorem slotZ_get (j : Nat) (h : j < 513) : slotZ[j]? = some (.bool false) := by
  unfold slotZ
  rw [Array.getElem?_replicate, if_pos h]
theorem zeroSlots_ (w : World) : (zeroValue 140).run Try.prog w = .ok (.agg slotZ) w := by kernel_rfl
theorem slots_new (w : World) (t : TypeId) : SlotsAt (w.alloc (.cells slotZ t)) w.heap.size (fun _ => false) := fun j hj => by
  have h := slotZ_get j (by omega)
  constructor
  · simp [go_sem, h]
  · simp [go_sem]
theorem zeroPtr_ (w : World) : (zeroValue 92).run Try.prog w = .ok (.pointer none) w := by kernel_rfl
set_option maxRecDepth 100000 in
set_option maxHeartbeats 8000000 in
theorem take_old (base mb g : Nat) (us : List (Unt × Int)) (un : Int) (up : ByteArray) (uu : Int) (ua s : Nat) (w : World) (n : Nat) (f : Lit → Option Value) (hn : n ≤ us.length) (hM : MapM w Try.prog 3 mb n f) (hU : ∀ U, UsedU base w mb us f U)
    (hI : ∀ U V g, f (.int .i64 U) = some (ptrV g) → f (.int .i64 V) = some (ptrV g) → U = V) (hf : f (.int .i64 uu) = some (ptrV g)) (hbg : base ≤ g) (hgm : g ≠ mb) (hgl : g < w.heap.size) (hS : SlotsAt w g (usedB us uu)) (hmb : base ≤ mb)
    (huu : I64 uu) (ha : 1 ≤ ua) (has : ua + s ≤ 513) :
    Calls Try.prog 64 #[.map (some mb), .agg #[.int .i64 un, .string up, .int .i64 uu, .int .i64 ua], .int .i64 s] w fun e w' => e = .returned (.tuple #[]) ∧ UsedS base w' mb (us ++ [((⟨un, up, uu, ua⟩ : Unt), (s : Int))]) ∧ Below base w w' := by
  have hM1 : MapM (w.alloc (.cells #[.int .i64 un, .string up, .int .i64 uu, .int .i64 ua] 67)) Try.prog 3 mb n f := hM.kept (World.grownBy_alloc _ _ none) (by simp)
  have hS1 : SlotsAt (w.alloc (.cells #[.int .i64 un, .string up, .int .i64 uu, .int .i64 ua] 67)) g (usedB us uu) := hS.same (Below.heap_alloc _ _ _ hgl)
  have hmbl := hM.lt
  have hq0 : (Instr.lookup 90 (.map (some mb)) (.int .i64 uu) false).run Try.prog (w.alloc (.cells #[.int .i64 un, .string up, .int .i64 uu, .int .i64 ua] 67)) = .ok (.pointer (some ⟨g, 0, none⟩)) (w.alloc (.cells #[.int .i64 un, .string up, .int .i64 uu, .int .i64 ua] 67)) := by
    have := hM1.look false keyI_ (t := 90) Try.underlying90 (zeroPtr_ _) (keyOfI_ huu)
    rw [hf] at this
    exact this
  obtain ⟨MK, HM0, HMK, HSTEP, HEND⟩ : ∃ MK : World → Nat → Prop, Hid (MK (w.alloc (.cells #[.int .i64 un, .string up, .int .i64 uu, .int .i64 ua] 67)) ua) ∧ Hid (∀ wr k, MK wr k → (Instr.lookup 90 (.map (some mb)) (.int .i64 uu) false).run Try.prog wr = .ok (.pointer (some ⟨g, 0, none⟩)) wr ∧ (k ≤ 512 → wr.cell? ⟨g, k, none⟩ = some (.bool (markK (usedB us uu) ua k k)) ∧ wr.frozen? ⟨g, k, none⟩ = false) ∧ wr.cell? ⟨w.heap.size, 2, none⟩ = some (.int .i64 uu) ∧ wr.cell? ⟨w.heap.size, 3, none⟩ = some (.int .i64 ua) ∧ g < wr.heap.size ∧ w.heap.size < wr.heap.size) ∧ Hid (∀ wr k, k < ua + s → ua ≤ k → MK wr k → MK (wr.setCell ⟨g, k, none⟩ (.bool true)) (k + 1)) ∧ Hid (∀ wr, MK wr (ua + s) → UsedS base wr mb (us ++ [((⟨un, up, uu, ua⟩ : Unt), (s : Int))]) ∧ Below base w wr) := by
    refine ⟨fun wr k => wr.heap.size = (w.alloc (.cells #[.int .i64 un, .string up, .int .i64 uu, .int .i64 ua] 67)).heap.size ∧ (∀ b, b ≠ g → wr.heap[b]? = (w.alloc (.cells #[.int .i64 un, .string up, .int .i64 uu, .int .i64 ua] 67)).heap[b]?) ∧ SlotsAt wr g (markK (usedB us uu) ua k) ∧ Below base w wr, Lib.hid ⟨rfl, fun _ _ => rfl, hS1.cast (fun j => markK_start _ _ _), (Below.refl _ _).alloc (by omega) _⟩, Lib.hid ?_, Lib.hid ?_, Lib.hid ?_⟩
    · rintro wr k ⟨h1, h2, h3, h4⟩
      have hq := (hM1.same (h2 mb (Ne.symm hgm))).look false keyI_ (t := 90) Try.underlying90 (zeroPtr_ _) (keyOfI_ huu)
      rw [hf] at hq
      simp only [World.size_alloc] at h1
      refine ⟨hq, fun hk => h3 k hk, (World.cell?_of_block (a := ⟨w.heap.size, 2, none⟩) (h2 w.heap.size (by omega))).trans (by simp [go_sem]), (World.cell?_of_block (a := ⟨w.heap.size, 3, none⟩) (h2 w.heap.size (by omega))).trans (by simp [go_sem]), by omega, by omega⟩
    · rintro wr k hk1 hk2 ⟨h1, h2, h3, h4⟩
      exact ⟨by simpa using h1, fun b hb => (Below.heap_setCell _ _ _ _ (by simpa using hb)).trans (h2 b hb), h3.mark (by omega), h4.setCell (by simpa using hbg) _⟩
    · rintro wr ⟨h1, h2, h3, h4⟩
      simp only [World.size_alloc] at h1
      refine ⟨UsedS.more_old (u := ⟨un, up, uu, ua⟩) (s := s) hn hM hU hI hf (by omega) hgm hbg (by omega) (fun b hb hl => (h2 b hb).trans (Below.heap_alloc _ _ _ hl)) (h3.cast (fun j => by simp)), h4⟩
  clear hM hU hI hS hM1 hS1
  go_enter Try.func64, Try.ntmps64
  go_wp2_with fail
  clear hq0
  go_loopw [6] (fun i wr => ∃ k : Nat, ua ≤ k ∧ k ≤ ua + s ∧ i = .int .i64 k ∧ Hid (MK wr k)) (fun i _ => ua + s - (intOf i).toNat)
  case atStart => exact ⟨ua, Nat.le_refl _, by omega, rfl, HM0⟩
  case round =>
    obtain ⟨k, hk1, hk2, rfl, HK⟩ := hrel
    obtain ⟨hq, hsl, p2, p3, hgr, hbr⟩ := HMK.out wr k HK.out
    by_cases hlt : k < ua + s
    · obtain ⟨e1, e2⟩ := hsl (by omega)
      have HN := Lib.hid (HSTEP.out wr k hlt hk1 HK.out)
      have hk6 : (k : Int) < 513 := by omega
      clear hsl
      go_wp2_with fail
      go_roundw
      case rel => exact ⟨k + 1, by omega, by omega, by go_num, HN⟩
      case measure => simp [intOf]; omega
    · have hkk : k = ua + s := by omega
      subst hkk
      have HE := Lib.hid (HEND.out wr HK.out)
      clear hsl
      go_wp2_with fail
      go_end0
      exact ⟨rfl, HE.out⟩
set_option maxRecDepth 100000 in
set_option maxHeartbeats 8000000 in
theorem take_new (base mb : Nat) (us : List (Unt × Int)) (un : Int) (up : ByteArray) (uu : Int) (ua s : Nat) (w : World) (n : Nat) (f : Lit → Option Value) (hn : n ≤ us.length) (hM : MapM w Try.prog 3 mb n f) (hU : ∀ U, UsedU base w mb us f U)
    (hI : ∀ U V g, f (.int .i64 U) = some (ptrV g) → f (.int .i64 V) = some (ptrV g) → U = V) (hf : f (.int .i64 uu) = none) (hl : us.length ≤ 100000) (hmb : base ≤ mb)
    (huu : I64 uu) (ha : 1 ≤ ua) (has : ua + s ≤ 513) :
    Calls Try.prog 64 #[.map (some mb), .agg #[.int .i64 un, .string up, .int .i64 uu, .int .i64 ua], .int .i64 s] w fun e w' => e = .returned (.tuple #[]) ∧ UsedS base w' mb (us ++ [((⟨un, up, uu, ua⟩ : Unt), (s : Int))]) ∧ Below base w w' := by
  have hM1 : MapM (w.alloc (.cells #[.int .i64 un, .string up, .int .i64 uu, .int .i64 ua] 67)) Try.prog 3 mb n f := hM.kept (World.grownBy_alloc _ _ none) (by simp)
  have hM2 : MapM ((w.alloc (.cells #[.int .i64 un, .string up, .int .i64 uu, .int .i64 ua] 67)).alloc (.cells slotZ 140)) Try.prog 3 mb n f := hM1.kept (World.grownBy_alloc _ _ none) (by simp)
  have hmbl := hM.lt
  have hq0 : (Instr.lookup 90 (.map (some mb)) (.int .i64 uu) false).run Try.prog (w.alloc (.cells #[.int .i64 un, .string up, .int .i64 uu, .int .i64 ua] 67)) = .ok (.pointer none) (w.alloc (.cells #[.int .i64 un, .string up, .int .i64 uu, .int .i64 ua] 67)) := by
    have := hM1.look false keyI_ (t := 90) Try.underlying90 (zeroPtr_ _) (keyOfI_ huu)
    rw [hf] at this
    exact this
  obtain ⟨w3, hu3, hM3, hg3⟩ := hM2.update keyI_ (t := 90) Try.underlying90 (by unfold maxLen; omega) (keyOfI_ huu) (val := .pointer (some ⟨w.heap.size + 1, 0, none⟩))
  have hz3 := hg3.size
  simp only [World.size_alloc] at hz3
  have hS3 : SlotsAt w3 (w.heap.size + 1) (fun _ => false) := by
    have := slots_new (w.alloc (.cells #[.int .i64 un, .string up, .int .i64 uu, .int .i64 ua] 67)) 140
    simp only [World.size_alloc] at this
    exact this.same (hg3.block _ (by simp) (by intro e; injection e with e; omega))
  have hzs := zeroSlots_
  obtain ⟨MK, HM0, HMK, HSTEP, HEND⟩ : ∃ MK : World → Nat → Prop, Hid (MK w3 ua) ∧ Hid (∀ wr k, MK wr k → (Instr.lookup 90 (.map (some mb)) (.int .i64 uu) false).run Try.prog wr = .ok (.pointer (some ⟨(w.heap.size + 1), 0, none⟩)) wr ∧ (k ≤ 512 → wr.cell? ⟨(w.heap.size + 1), k, none⟩ = some (.bool (markK (fun _ => false) ua k k)) ∧ wr.frozen? ⟨(w.heap.size + 1), k, none⟩ = false) ∧ wr.cell? ⟨w.heap.size, 2, none⟩ = some (.int .i64 uu) ∧ wr.cell? ⟨w.heap.size, 3, none⟩ = some (.int .i64 ua) ∧ (w.heap.size + 1) < wr.heap.size ∧ w.heap.size < wr.heap.size) ∧ Hid (∀ wr k, k < ua + s → ua ≤ k → MK wr k → MK (wr.setCell ⟨(w.heap.size + 1), k, none⟩ (.bool true)) (k + 1)) ∧ Hid (∀ wr, MK wr (ua + s) → UsedS base wr mb (us ++ [((⟨un, up, uu, ua⟩ : Unt), (s : Int))]) ∧ Below base w wr) := by
    refine ⟨fun wr k => wr.heap.size = w3.heap.size ∧ (∀ b, b ≠ w.heap.size + 1 → wr.heap[b]? = w3.heap[b]?) ∧ SlotsAt wr (w.heap.size + 1) (markK (fun _ => false) ua k) ∧ Below base w wr, Lib.hid ⟨rfl, fun _ _ => rfl, hS3.cast (fun j => markK_start _ _ _), (((Below.refl base w).alloc (by omega) _).alloc (by simp; omega) _).grown hg3 (by simp; omega) (fun j hj => by cases hj; omega)⟩, Lib.hid ?_, Lib.hid ?_, Lib.hid ?_⟩
    · rintro wr k ⟨h1, h2, h3, h4⟩
      have hq := (hM3.same (h2 mb (by omega))).look false keyI_ (t := 90) Try.underlying90 (zeroPtr_ _) (keyOfI_ huu)
      rw [putF_same (keyLitI_ _)] at hq
      have hbx : ∀ o, wr.cell? ⟨w.heap.size, o, none⟩ = ((w.alloc (.cells #[.int .i64 un, .string up, .int .i64 uu, .int .i64 ua] 67)).alloc (.cells slotZ 140)).cell? ⟨w.heap.size, o, none⟩ := fun o => (World.cell?_of_block (a := ⟨w.heap.size, o, none⟩) (h2 w.heap.size (by omega))).trans (grown_cell hg3 (by simp; omega) (by omega))
      exact ⟨hq, fun hk => h3 k hk, (hbx 2).trans (by simp [go_sem]), (hbx 3).trans (by simp [go_sem]), by omega, by omega⟩
    · rintro wr k hk1 hk2 ⟨h1, h2, h3, h4⟩
      exact ⟨by simpa using h1, fun b hb => (Below.heap_setCell _ _ _ _ (by simpa using hb)).trans (h2 b hb), h3.mark (by omega), h4.setCell (by simp; omega) _⟩
    · rintro wr ⟨h1, h2, h3, h4⟩
      refine ⟨UsedS.more_new (u := ⟨un, up, uu, ua⟩) (s := s) (g := w.heap.size + 1) hn hU hI hf (by omega) (by omega) (by omega) (by omega) (by omega) (fun b hb hl => (h2 b (by omega)).trans ((hg3.block _ (by simp; omega) (by intro e; injection e with e; exact hb e)).trans ((Below.heap_alloc _ _ _ (by simp; omega)).trans (Below.heap_alloc _ _ _ hl)))) (hM3.same (h2 mb (by omega))) (h3.cast (fun j => by simp)), h4⟩
  have e3 : w3.cell? ⟨w.heap.size, 3, none⟩ = some (.int .i64 ua) := (grown_cell hg3 (by simp; omega) (by omega)).trans (by simp [go_sem])
  have hbr3 : w.heap.size < w3.heap.size := by omega
  clear hM hU hI hM1 hM2 hM3 hS3 hg3
  go_enter Try.func64, Try.ntmps64
  go_wp2_with fail
  clear hq0 hu3 hzs e3
  go_loopw [6] (fun i wr => ∃ k : Nat, ua ≤ k ∧ k ≤ ua + s ∧ i = .int .i64 k ∧ Hid (MK wr k)) (fun i _ => ua + s - (intOf i).toNat)
  case atStart => exact ⟨ua, Nat.le_refl _, by omega, rfl, HM0⟩
  case round =>
    obtain ⟨k, hk1, hk2, rfl, HK⟩ := hrel
    obtain ⟨hq, hsl, p2, p3, hgr, hbr⟩ := HMK.out wr k HK.out
    by_cases hlt : k < ua + s
    · obtain ⟨e1, e2⟩ := hsl (by omega)
      have HN := Lib.hid (HSTEP.out wr k hlt hk1 HK.out)
      have hk6 : (k : Int) < 513 := by omega
      clear hsl
      go_wp2_with fail
      go_roundw
      case rel => exact ⟨k + 1, by omega, by omega, by go_num, HN⟩
      case measure => simp [intOf]; omega
    · have hkk : k = ua + s := by omega
      subst hkk
      have HE := Lib.hid (HEND.out wr HK.out)
      clear hsl
      go_wp2_with fail
      go_end0
      exact ⟨rfl, HE.out⟩
theorem take_any (base mb : Nat) (us : List (Unt × Int)) (u : Unt) (s : Int) (w : World) (h : UsedS base w mb us) (hl : us.length ≤ 100000) (hmb : base ≤ mb) (huu : I64 u.univ) (ha : 1 ≤ u.addr) (hs : 0 ≤ s) (has : u.addr + s - 1 ≤ 512) :
    Calls Try.prog 64 #[.map (some mb), .agg #[.int .i64 u.num, .string u.prof, .int .i64 u.univ, .int .i64 u.addr], .int .i64 s] w fun e w' => e = .returned (.tuple #[]) ∧ UsedS base w' mb (us ++ [(u, s)]) ∧ Below base w w' := by
  obtain ⟨un, up, uu, ua⟩ := u
  simp only at *
  obtain ⟨a, rfl⟩ : ∃ n : Nat, ua = (n : Int) := ⟨ua.toNat, by omega⟩
  obtain ⟨b, rfl⟩ : ∃ n : Nat, s = (n : Int) := ⟨s.toNat, by omega⟩
  obtain ⟨n, f, hn, hM, hU, hI⟩ := h
  rcases hU uu with ⟨hf, _⟩ | ⟨g, hf, hbg, hgm, hgl, hS⟩
  · exact take_new base mb us un up uu a b w n f hn hM hU hI hf hl hmb huu (by omega) (by omega)
  · exact take_old base mb g us un up uu a b w n f hn hM hU hI hf hbg hgm hgl hS hmb huu (by omega) (by omega)
end Go.Proofs.Ytabalicembhjmaa

namespace Go.Proofs.Ytabalicembhjmaa
open Go.RowKit
set_option linter.unusedVariables false
set_option linter.unusedSimpArgs false

theorem bel_drewF {B : Nat} {w W : World} (h : Below B w W) (n : Nat) : Below B w (W.drewN n) := ⟨h.os, h.tape, h.output, h.size, h.block⟩
set_option maxRecDepth 100000 in
set_option maxHeartbeats 16000000 in
theorem ckRanges_any (v : Value) (l : List Rng) (w : World) (h : RngS w.heap.size w v l) (hf : ∀ r ∈ l, RngFit r) :
    Calls Try.prog 109 #[v] w fun e w' => e = .returned (.int .i64 (chkRngs l)) ∧ Below w.heap.size w w' := by
  have hm := CellsS.len h
  unfold maxLen at hm
  have HG := Lib.hid (RngS.get h)
  have HF := Lib.hid hf
  obtain ⟨ao, cap, rfl, _⟩ := CellsS.shape h
  clear h hf
  have HC0 := Lib.hid (show chkRngs l = if 30 < l.length then 2 else scanF rngF l 0 from rfl)
  generalize chkRngs l = RES at *
  go_enter Try.func109, Try.ntmps109
  by_cases h30 : 30 < l.length
  · have HV := Lib.hid (show RES = 2 by rw [HC0.out, if_pos h30])
    go_wp2_with fail
    go_ret
    exact ⟨by rw [HV.out] <;> rfl, Below.refl _ _⟩
  have HC := Lib.hid (show RES = scanF rngF l 0 by rw [HC0.out, if_neg h30])
  have h31 : l.length ≤ 30 := by omega
  clear HC0 h30
  have hmm := @run_makeMap Try.prog
  go_wp2_with fail
  clear hmm
  go_loopw [12] (fun i wr => ∃ k : Nat, k ≤ l.length ∧ i = .int .i64 k ∧ Hid (RES = scanF rngF l k) ∧ Hid (Below w.heap.size w wr) ∧ Hid (SeenM wr Try.prog 9 4 w.heap.size k ((l.take k).map (fun y => Lit.string y.nm))) ∧ w.heap.size < wr.heap.size) (fun i _ => l.length - (intOf i).toNat)
  case atStart => exact ⟨0, Nat.zero_le _, rfl, HC, Lib.hid ((Below.refl _ _).alloc (Nat.le_refl _) _), Lib.hid (by simpa using seen_made w _ _ _), by simp⟩
  case round =>
    obtain ⟨k, hk, rfl, HRF, HBW, HSE, hlw⟩ := hrel
    by_cases hlt : k < l.length
    · obtain ⟨b, off, cap', hsl, hb, _, hc⟩ := HG.out (by omega)
      injection hsl with hs1 hs2 hs3
      subst hs1 hs3
      obtain ⟨d0, d1, d2⟩ := hc k hlt wr HBW.out
      have HPR := Lib.hid (fun (h0 : 0 < k) => hc (k - 1) (by omega))
      have hbr : b < wr.heap.size := by have := HBW.out.size; omega
      obtain ⟨g0, g1, hns⟩ := HF.out _ (List.getElem_mem hlt)
      have HSG := Lib.hid (scanF_good rngF l k hlt)
      have HSB := Lib.hid (scanF_bad rngF l k hlt)
      have HFD := Lib.hid (show rngF (l.take k) l[k] = if rngBad l[k] then 1 else if rngLow (l.take k) l[k] then 7 else if !nameB l[k].nm then 5 else if l[k].nm ∈ (l.take k).map Rng.nm then 6 else 0 from rfl)
      have HKEY := Lib.hid (keyOfS_ hns)
      have HIN := Lib.hid (mem_strs Rng.nm (l.take k) l[k].nm)
      have HTK := Lib.hid (strs_snoc Rng.nm l k hlt)
      have HKV := Lib.hid (show ∀ o, SeenM (wr.alloc o) Try.prog 9 4 w.heap.size k ((l.take k).map (fun y => Lit.string y.nm)) from fun o => HSE.out.kept (World.grownBy_alloc _ _ none) (by simp))
      have HLW0 := Lib.hid (show k = 0 → rngLow (l.take k) l[k] = false from fun h0 => by subst h0; rfl)
      have HLW := Lib.hid (show ∀ h0 : 0 < k, rngLow (l.take k) l[k] = decide (l[k].low ≤ (l[k - 1]'(by omega)).high) from fun h0 => by unfold rngLow; rw [last_take l k hlt h0]; rfl)
      have HBD := Lib.hid (show rngBad l[k] = (!inR l[k].low 0 65535 || !inR l[k].high 0 65535 || decide (l[k].high < l[k].low)) from rfl)
      generalize rngLow (l.take k) l[k] = LW at *
      generalize rngBad l[k] = BD at *
      generalize rngF (l.take k) l[k] = FF at *
      have hnm : l[k].nm = l[k].name.data.toList := rfl
      rw [hnm] at HFD HIN HTK
      clear hnm hc g0 g1
      generalize (l.take k).map Rng.nm = SN at *
      generalize (l.take k).map (fun y => Lit.string y.nm) = S at *
      generalize hrk : l[k] = rk at *
      clear hrk
      obtain ⟨rlo, rhi, rnm⟩ := rk
      simp only at d0 d1 d2 hns
      go_upto_region 7 with fail
      have HKA := Lib.hid (HKV.out (.cells #[.int .i64 rlo, .int .i64 rhi, .string rnm] 86))
      have HBA := Lib.hid (HBW.out.alloc (Nat.le_of_lt hlw) (.cells #[.int .i64 rlo, .int .i64 rhi, .string rnm] 86))
      go_cut [17] (fun s17 wx => s17 = .bool BD ∧ wx = wr.alloc (.cells #[.int .i64 rlo, .int .i64 rhi, .string rnm] 86))
      case first =>
        rcases Bool.eq_false_or_eq_true (inR rlo 0 65535) with k0 | k0
        rotate_left
        · skip
          have HV := Lib.hid (show BD = true by rw [HBD.out]; simp [k0])
          go_wp2_with (first | (go_at_call 71; ((with_reducible refine (fLevel_R _ _).mono ?_); rintro e w' ⟨rfl, rfl⟩)) | (go_at_call 108; ((with_reducible refine (name_any _ _ hns).mono ?_); rintro e w' ⟨rfl, rfl⟩)) | fail)
          all_goals go_meet
          all_goals exact ⟨by rw [HV.out] <;> rfl, rfl⟩
        rcases Bool.eq_false_or_eq_true (inR rhi 0 65535) with k1 | k1
        rotate_left
        · skip
          have HV := Lib.hid (show BD = true by rw [HBD.out]; simp [k0, k1])
          go_wp2_with (first | (go_at_call 71; ((with_reducible refine (fLevel_R _ _).mono ?_); rintro e w' ⟨rfl, rfl⟩)) | (go_at_call 108; ((with_reducible refine (name_any _ _ hns).mono ?_); rintro e w' ⟨rfl, rfl⟩)) | fail)
          all_goals go_meet
          all_goals exact ⟨by rw [HV.out] <;> rfl, rfl⟩
        by_cases k2 : rhi < rlo
        · skip
          have HV := Lib.hid (show BD = true by rw [HBD.out]; simp [k0, k1, k2])
          go_wp2_with (first | (go_at_call 71; ((with_reducible refine (fLevel_R _ _).mono ?_); rintro e w' ⟨rfl, rfl⟩)) | (go_at_call 108; ((with_reducible refine (name_any _ _ hns).mono ?_); rintro e w' ⟨rfl, rfl⟩)) | fail)
          all_goals go_meet
          all_goals exact ⟨by rw [HV.out] <;> rfl, rfl⟩
        · skip
          have HV := Lib.hid (show BD = false by rw [HBD.out]; simp [k0, k1]; omega)
          have k3 : decide (rhi < rlo) = false := by simpa using k2
          go_wp2_with (first | (go_at_call 71; ((with_reducible refine (fLevel_R _ _).mono ?_); rintro e w' ⟨rfl, rfl⟩)) | (go_at_call 108; ((with_reducible refine (name_any _ _ hns).mono ?_); rintro e w' ⟨rfl, rfl⟩)) | fail)
          all_goals go_meet
          all_goals exact ⟨by rw [HV.out] <;> rfl, rfl⟩
      case rest =>
        obtain ⟨rfl, rfl⟩ := hcut
        cases BD
        rotate_left
        · have HE : FF = 1 := by rw [HFD.out]; rfl
          have HV := Lib.hid (show RES = 1 by rw [HRF.out, HSB.out (by rw [HE]; decide), HE])
          clear HE
          go_wp2_with fail
          go_ret
          exact ⟨by rw [HV.out] <;> rfl, HBA.out⟩
        have HFE := Lib.hid (show FF = if LW then 7 else if !nameB rnm.data.toList then 5 else if rnm.data.toList ∈ SN then 6 else 0 by rw [HFD.out]; rfl)
        clear HFD HBD
        go_upto_region 9 with fail
        go_cut [35] (fun s35 wx => s35 = .bool LW ∧ Below wx.heap.size (wr.alloc (.cells #[.int .i64 rlo, .int .i64 rhi, .string rnm] 86)) wx ∧ wx.heap.size = wr.heap.size + 1)
        case first =>
          by_cases h0 : k = 0
          · subst h0
            have HV := Lib.hid (HLW0.out rfl)
            clear HPR HLW HLW0
            go_quiet (fail)
            go_wp2_with fail
            all_goals go_meet
            all_goals exact ⟨by rw [HV.out] <;> rfl, bel_drewF (Below.refl _ _) _, by simp⟩
          · obtain ⟨j, rfl⟩ : ∃ j, k = j + 1 := ⟨k - 1, by omega⟩
            have HLX := Lib.hid (HLW.out (by omega))
            obtain ⟨_, d4, _⟩ := HPR.out (by omega) wr HBW.out
            clear HPR HLW HLW0
            simp only [Nat.add_sub_cancel] at d4
            have hlow : (l[j + 1 - 1]'(by omega)) = l[j] := by simp
            rw [hlow] at HLX
            clear hlow
            generalize l[j] = rj at *
            obtain ⟨jl, jh, jn⟩ := rj
            simp only at d4
            have hji : ((j + 1 : Nat) : Int) - 1 = (j : Int) := by omega
            by_cases hle : rlo ≤ jh
            · skip
              have HV := Lib.hid (show LW = true by rw [HLX.out]; simpa using hle)
              clear HLX
              go_quiet (fail)
              go_wp2_with fail
              all_goals go_meet
              all_goals exact ⟨by rw [HV.out] <;> rfl, bel_drewF (Below.refl _ _) _, by simp⟩
            · skip
              have HV := Lib.hid (show LW = false by rw [HLX.out]; simpa using hle)
              clear HLX
              have hled : decide (rlo ≤ jh) = false := by simpa using hle
              go_quiet (fail)
              go_wp2_with fail
              all_goals go_meet
              all_goals exact ⟨by rw [HV.out] <;> rfl, bel_drewF (Below.refl _ _) _, by simp⟩
        case rest =>
          obtain ⟨rfl, hb3, hz3⟩ := hcut
          have HBC := Lib.hid (HBA.out.trans (hb3.mono (by omega)))
          have HKW := Lib.hid (HKA.out.below hb3 (by omega))
          have e2 : wc.cell? ⟨wr.heap.size, 2, none⟩ = some (.string rnm) := (hb3.cell (p := ⟨wr.heap.size, 2, none⟩) (by simp; omega)).trans (by simp [go_sem])
          have hwc : w.heap.size < wc.heap.size := by omega
          clear hb3 d0 d1 d2 HLW HLW0 HPR HKA HBA HKV HBW HSE
          cases LW
          rotate_left
          · skip
            have HE : FF = 7 := by rw [HFE.out]; rfl
            have HV := Lib.hid (show RES = 7 by rw [HRF.out, HSB.out (by rw [HE]; decide), HE])
            clear HE
            go_wp2_with fail
            go_ret
            exact ⟨by rw [HV.out] <;> rfl, HBC.out⟩
          rcases Bool.eq_false_or_eq_true (nameB rnm.data.toList) with k0 | k0
          rotate_left
          · skip
            have HE : FF = 5 := by rw [HFE.out]; simp [k0]
            have HV := Lib.hid (show RES = 5 by rw [HRF.out, HSB.out (by rw [HE]; decide), HE])
            clear HE
            go_wp2_with (first | (go_at_call 71; ((with_reducible refine (fLevel_R _ _).mono ?_); rintro e w' ⟨rfl, rfl⟩)) | (go_at_call 108; ((with_reducible refine (name_any _ _ hns).mono ?_); rintro e w' ⟨rfl, rfl⟩)) | fail)
            go_ret
            exact ⟨by rw [HV.out] <;> rfl, HBC.out⟩
          by_cases hin : rnm.data.toList ∈ SN
          · skip
            have HE : FF = 6 := by rw [HFE.out]; simp [k0, hin]
            have HV := Lib.hid (show RES = 6 by rw [HRF.out, HSB.out (by rw [HE]; decide), HE])
            clear HE
            go_wp2_with (first | (at_lookup; refine wpList_seen _ rfl _ _ 137 rfl 9 4 keyS_ Try.underlying137 Try.underlying4 (zeroB_ _) w.heap.size _ S rfl HKW.out (.string rnm) (.string rnm.data.toList) rfl HKEY.out ?_; intro c hc; obtain rfl : c = true := hc.2 (HIN.out.2 hin); clear hc) | (first | (go_at_call 71; ((with_reducible refine (fLevel_R _ _).mono ?_); rintro e w' ⟨rfl, rfl⟩)) | (go_at_call 108; ((with_reducible refine (name_any _ _ hns).mono ?_); rintro e w' ⟨rfl, rfl⟩)) | fail))
            go_ret
            exact ⟨by rw [HV.out] <;> rfl, HBC.out⟩
          · have HE : FF = 0 := by rw [HFE.out]; simp [k0, hin]
            have HV := Lib.hid (show RES = scanF rngF l (k + 1) by rw [HRF.out, HSG.out HE])
            clear HE
            go_wp2_with (first | (at_lookup; refine wpList_seen _ rfl _ _ 137 rfl 9 4 keyS_ Try.underlying137 Try.underlying4 (zeroB_ _) w.heap.size _ S rfl HKW.out (.string rnm) (.string rnm.data.toList) rfl HKEY.out ?_; intro c hc; obtain rfl : c = false := (by cases c; rfl; exact absurd (HIN.out.1 (hc.1 rfl)) hin); clear hc) | (at_mapUpdate; refine wpList_seen_put _ rfl _ _ _ 137 rfl 9 4 keyS_ Try.underlying137 Try.underlying4 w.heap.size _ S rfl HKW.out (by unfold maxLen; omega) (.string rnm) (.string rnm.data.toList) rfl rfl HKEY.out ?_; intro w3 hown3 hgrow3) | (first | (go_at_call 71; ((with_reducible refine (fLevel_R _ _).mono ?_); rintro e w' ⟨rfl, rfl⟩)) | (go_at_call 108; ((with_reducible refine (name_any _ _ hns).mono ?_); rintro e w' ⟨rfl, rfl⟩)) | fail))
            go_roundw
            case rel => exact ⟨k + 1, by omega, by first | rfl | go_num, HV, Lib.hid (HBC.out.grown hgrow3 (by omega) (fun j hj => by cases hj; omega)), Lib.hid (by rw [HTK.out]; exact hown3), hown3.lt⟩
            case measure => simp [intOf]; omega
    · have HV := Lib.hid (show RES = 0 by rw [HRF.out, scanF_end rngF l k (by omega)])
      have hkk : k = l.length := by omega
      subst hkk
      go_wp2_with fail
      go_ret
      exact ⟨by rw [HV.out] <;> rfl, HBW.out⟩
end Go.Proofs.Ytabalicembhjmaa
