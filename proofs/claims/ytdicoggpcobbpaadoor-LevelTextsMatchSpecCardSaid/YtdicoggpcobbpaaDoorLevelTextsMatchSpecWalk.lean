/- The walk of cycloramalaw1.LevelTextsMatchSpec: for every input it returns true. -/
import Derived.Test.YtdicoggpcobbpaaDoorReadAny
namespace Go.Proofs.YtdicoggpcobbpaaDoor.levelTextsMatchSpec
open Go.RowKit
set_option linter.unusedVariables false
set_option linter.unusedSimpArgs false

set_option maxHeartbeats 1000000 in
theorem show_no1 (n : Int) (w : World) (h : n < 0 ∨ 65535 < n) :
    Calls Tryd.prog 11 #[.int .i64 n] w fun e w' => e = .returned (.tuple #[.string ⟨#[]⟩, .int .i64 1]) ∧ w = w' := by
  have CN := Lib.hid (fun W => isLevel_no n W h)
  clear h
  go_enter Tryd.func11, Tryd.ntmps11
  go_wp2_with fail
  refine (CN.out _).mono ?_
  rintro e w' ⟨rfl, rfl⟩
  go_wp2
  go_ret2
  exact ⟨rfl, rfl⟩
set_option maxHeartbeats 1000000 in
theorem rread_out (w : World) :
    Calls Tryd.prog 26 #[.string ⟨#[111, 117, 116]⟩] w fun e w' => e = .returned (.tuple #[.int .i64 0, .int .i64 0]) ∧ w = w' := by
  go_enter Tryd.func26, Tryd.ntmps26
  go_wp2
  go_ret2
  exact ⟨rfl, rfl⟩
set_option maxHeartbeats 1000000 in
theorem rread_full (w : World) :
    Calls Tryd.prog 26 #[.string ⟨#[102, 117, 108, 108]⟩] w fun e w' => e = .returned (.tuple #[.int .i64 65535, .int .i64 0]) ∧ w = w' := by
  go_enter Tryd.func26, Tryd.ntmps26
  go_wp2
  go_ret2
  exact ⟨rfl, rfl⟩
theorem of_list {s : ByteArray} {l : List UInt8} (h : s.data.toList = l) : s = ⟨l.toArray⟩ := bytes_eq (by rw [h])

theorem shows (n : Int) : ∃ (t : ByteArray) (f : Int), (∀ W, TextW W → Calls Tryd.prog 11 #[.int .i64 n] W fun e w' => e = .returned (.tuple #[.string t, .int .i64 f]) ∧ Below W.heap.size W w') ∧
    (∀ W, TextW W → Calls Tryd.prog 25 #[.int .i64 n] W fun e w' => e = .returned (.tuple #[.string t, .int .i64 f]) ∧ Below W.heap.size W w') := by
  by_cases hl : n < 0 ∨ 65535 < n
  · exact ⟨⟨#[]⟩, 1, fun W _ => (show_no1 n W hl).mono (by rintro e w' ⟨rfl, rfl⟩; exact ⟨rfl, Below.refl _ _⟩), fun W _ => (rshow_no n W hl).mono (by rintro e w' ⟨rfl, rfl⟩; exact ⟨rfl, Below.refl _ _⟩)⟩
  rcases (show n = 0 ∨ n = 65535 ∨ (0 < n ∧ n < 65535) by omega) with rfl | rfl | ⟨a, b⟩
  · exact ⟨_, 0, fun W _ => (show_out W).mono (by rintro e w' ⟨rfl, rfl⟩; exact ⟨rfl, Below.refl _ _⟩), fun W _ => (rshow_out W).mono (by rintro e w' ⟨rfl, rfl⟩; exact ⟨rfl, Below.refl _ _⟩)⟩
  · exact ⟨_, 0, fun W _ => (show_full W).mono (by rintro e w' ⟨rfl, rfl⟩; exact ⟨rfl, Below.refl _ _⟩), fun W _ => (rshow_full W).mono (by rintro e w' ⟨rfl, rfl⟩; exact ⟨rfl, Below.refl _ _⟩)⟩
  · by_cases h : rnd (rnd (100 * n) 65535 * 65535) 100 = n
    · have hq := pct_ok n _ a b h rfl
      obtain ⟨p, hp⟩ := Int.eq_ofNat_of_zero_le (show 0 ≤ rnd (100 * n) 65535 by omega)
      have hp' : rnd (100 * n) 65535 = (p : Int) := hp
      rw [hp'] at h
      exact ⟨⟨(Lib.decDigits p ++ [37]).toArray⟩, 0, fun W _ => (show_pct n p W a b hp' h).mono (by rintro e w' ⟨⟨s, rfl, hs⟩, hb⟩; exact ⟨by rw [of_list hs], hb⟩), fun W _ => (rshow_pct n p W a b hp' h).mono (by rintro e w' ⟨⟨s, rfl, hs⟩, hb⟩; exact ⟨by rw [of_list hs], hb⟩)⟩
    · exact ⟨⟨(35 :: Lib.decDigits n.toNat).toArray⟩, 0, fun W hW => (show_hash n W hW a b h).mono (by rintro e w' ⟨⟨s, rfl, hs⟩, hb⟩; exact ⟨by rw [of_list hs], hb⟩), fun W hW => (rshow_hash n W hW a b h).mono (by rintro e w' ⟨⟨s, rfl, hs⟩, hb⟩; exact ⟨by rw [of_list hs], hb⟩)⟩

end Go.Proofs.YtdicoggpcobbpaaDoor.levelTextsMatchSpec
