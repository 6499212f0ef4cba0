/- The walk of cycloramalaw1.LevelTextsComeBack: for every input it returns true. -/
import Derived.Test.YtdicoggpcobbpaaDoorLvRead
import Derived.Test.YtdicoggpcobbpaaDoorRMix
namespace Go.Proofs.YtdicoggpcobbpaaDoor.levelTextsComeBack
open Go.RowKit
set_option linter.unusedVariables false
set_option linter.unusedSimpArgs false

/-- what Show writes is read again -/
def Back (n : Int) (s : ByteArray) : Prop := ∀ W, TextW W → Calls Tryd.prog 13 #[.string s] W fun e w' => e = .returned (.tuple #[.int .i64 n, .int .i64 0]) ∧ Below W.heap.size W w'

theorem shows (n : Int) (w : World) (hT : TextW w) (h0 : 0 ≤ n) (h1 : n ≤ 65535) :
    Calls Tryd.prog 11 #[.int .i64 n] w fun e w' => ∃ s : ByteArray, e = .returned (.tuple #[.string s, .int .i64 0]) ∧ Back n s ∧ Below w.heap.size w w' := by
  rcases (show n = 0 ∨ n = 65535 ∨ (0 < n ∧ n < 65535) by omega) with rfl | rfl | ⟨a, b⟩
  · refine (show_out w).mono ?_
    rintro e w' ⟨rfl, rfl⟩
    exact ⟨_, rfl, fun W _ => (read_out W).mono (by rintro e w' ⟨rfl, rfl⟩; exact ⟨rfl, Below.refl _ _⟩), Below.refl _ _⟩
  · refine (show_full w).mono ?_
    rintro e w' ⟨rfl, rfl⟩
    exact ⟨_, rfl, fun W _ => (read_full W).mono (by rintro e w' ⟨rfl, rfl⟩; exact ⟨rfl, Below.refl _ _⟩), Below.refl _ _⟩
  · by_cases h : rnd (rnd (100 * n) 65535 * 65535) 100 = n
    · have hq := pct_ok n _ a b h rfl
      obtain ⟨p, hp⟩ := Int.eq_ofNat_of_zero_le (show 0 ≤ rnd (100 * n) 65535 by omega)
      have hp' : rnd (100 * n) 65535 = (p : Int) := hp
      rw [hp'] at h hq
      refine (show_pct n p w a b hp' h).mono ?_
      rintro e w' ⟨⟨s, rfl, hs⟩, hb⟩
      exact ⟨s, rfl, fun W hW => read_pct s p n W hW (by omega) (by omega) hs h, hb⟩
    · refine (show_hash n w hT a b h).mono ?_
      rintro e w' ⟨⟨s, rfl, hs⟩, hb⟩
      refine ⟨s, rfl, fun W hW => ?_, hb⟩
      have := read_hash s n.toNat W (by omega) (by omega) hs
      rwa [show ((n.toNat : Nat) : Int) = n by omega] at this

set_option maxHeartbeats 2000000 in
theorem walk (n : Int) (w : World) (_w0 : (Lit.int .i64 n).wf = true) (hT : TextW w) :
    Calls Tryd.prog 3 #[.int .i64 n] w fun e w' => e = .returned (.bool true) ∧ Below w.heap.size w w' := by
  clear _w0
  by_cases hl : 0 ≤ n ∧ n ≤ 65535
  · have CS := Lib.hid (shows n w hT hl.1 hl.2)
    have HT := Lib.hid hT
    clear hT hl
    go_enter Tryd.func3, Tryd.ntmps3
    go_wp2_with fail
    refine CS.out.mono ?_
    rintro e w1 ⟨s, rfl, hR, hb⟩
    have CR := Lib.hid (hR w1 (HT.out.below hb))
    have HB := Lib.hid hb
    clear hb hR
    go_wp2_with fail
    refine CR.out.mono ?_
    rintro e w2 ⟨rfl, hb⟩
    have HB2 := Lib.hid (bt HB.out hb)
    clear hb
    go_wp2
    go_ret
    exact ⟨rfl, HB2.out⟩
  · have hn : n < 0 ∨ 65535 < n := by omega
    have CS := Lib.hid (show_no n w hn)
    have CL := Lib.hid (fun W => rIsLevel_no n W hn)
    clear hT hl hn
    go_enter Tryd.func3, Tryd.ntmps3
    go_wp2_with fail
    refine CS.out.mono ?_
    rintro e w1 ⟨⟨k, rfl, hk⟩, rfl⟩
    have hk' : (k != 0) = true := by simpa using hk
    clear hk
    go_wp2_with fail
    refine (CL.out _).mono ?_
    rintro e w' ⟨rfl, rfl⟩
    go_wp2
    go_ret
    exact ⟨rfl, Below.refl _ _⟩
end Go.Proofs.YtdicoggpcobbpaaDoor.levelTextsComeBack
