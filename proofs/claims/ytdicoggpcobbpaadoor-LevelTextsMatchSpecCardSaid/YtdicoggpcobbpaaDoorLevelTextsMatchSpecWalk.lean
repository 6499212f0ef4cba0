/- The walk of cycloramalaw1.LevelTextsMatchSpec: for every input it returns true. -/
import Derived.Test.YtdicoggpcobbpaaDoorReadAny
namespace Go.Proofs.YtdicoggpcobbpaaDoor.levelTextsMatchSpec
open Go.RowKit
set_option linter.unusedVariables false
set_option linter.unusedSimpArgs false

set_option maxHeartbeats 1000000 in
theorem show_no1 (n : Int) (w : World) (h : n < 0 ∨ 65535 < n) :
    Calls Tryd.prog 11 #[.int .i64 n] w fun e w' => e = .returned (.tuple #[.string ⟨#[]⟩, .int .i64 1]) ∧ w = w' := by
  have CN := Lib.hid (fun W => isLevel_no n W h)
  clear h
  go_enter Tryd.func11, Tryd.ntmps11
  go_wp2_with fail
  refine (CN.out _).mono ?_
  rintro e w' ⟨rfl, rfl⟩
  go_wp2
  go_ret2
  exact ⟨rfl, rfl⟩
set_option maxHeartbeats 1000000 in
theorem rread_out (w : World) :
    Calls Tryd.prog 26 #[.string ⟨#[111, 117, 116]⟩] w fun e w' => e = .returned (.tuple #[.int .i64 0, .int .i64 0]) ∧ w = w' := by
  go_enter Tryd.func26, Tryd.ntmps26
  go_wp2
  go_ret2
  exact ⟨rfl, rfl⟩
set_option maxHeartbeats 1000000 in
theorem rread_full (w : World) :
    Calls Tryd.prog 26 #[.string ⟨#[102, 117, 108, 108]⟩] w fun e w' => e = .returned (.tuple #[.int .i64 65535, .int .i64 0]) ∧ w = w' := by
  go_enter Tryd.func26, Tryd.ntmps26
  go_wp2
  go_ret2
  exact ⟨rfl, rfl⟩
theorem of_list {s : ByteArray} {l : List UInt8} (h : s.data.toList = l) : s = ⟨l.toArray⟩ := bytes_eq (by rw [h])

theorem shows (n : Int) : ∃ (t : ByteArray) (f : Int), (∀ W, TextW W → Calls Tryd.prog 11 #[.int .i64 n] W fun e w' => e = .returned (.tuple #[.string t, .int .i64 f]) ∧ Below W.heap.size W w') ∧
    (∀ W, TextW W → Calls Tryd.prog 25 #[.int .i64 n] W fun e w' => e = .returned (.tuple #[.string t, .int .i64 f]) ∧ Below W.heap.size W w') := by
  by_cases hl : n < 0 ∨ 65535 < n
  · exact ⟨⟨#[]⟩, 1, fun W _ => (show_no1 n W hl).mono (by rintro e w' ⟨rfl, rfl⟩; exact ⟨rfl, Below.refl _ _⟩), fun W _ => (rshow_no n W hl).mono (by rintro e w' ⟨rfl, rfl⟩; exact ⟨rfl, Below.refl _ _⟩)⟩
  rcases (show n = 0 ∨ n = 65535 ∨ (0 < n ∧ n < 65535) by omega) with rfl | rfl | ⟨a, b⟩
  · exact ⟨_, 0, fun W _ => (show_out W).mono (by rintro e w' ⟨rfl, rfl⟩; exact ⟨rfl, Below.refl _ _⟩), fun W _ => (rshow_out W).mono (by rintro e w' ⟨rfl, rfl⟩; exact ⟨rfl, Below.refl _ _⟩)⟩
  · exact ⟨_, 0, fun W _ => (show_full W).mono (by rintro e w' ⟨rfl, rfl⟩; exact ⟨rfl, Below.refl _ _⟩), fun W _ => (rshow_full W).mono (by rintro e w' ⟨rfl, rfl⟩; exact ⟨rfl, Below.refl _ _⟩)⟩
  · by_cases h : rnd (rnd (100 * n) 65535 * 65535) 100 = n
    · have hq := pct_ok n _ a b h rfl
      obtain ⟨p, hp⟩ := Int.eq_ofNat_of_zero_le (show 0 ≤ rnd (100 * n) 65535 by omega)
      have hp' : rnd (100 * n) 65535 = (p : Int) := hp
      rw [hp'] at h
      exact ⟨⟨(Lib.decDigits p ++ [37]).toArray⟩, 0, fun W _ => (show_pct n p W a b hp' h).mono (by rintro e w' ⟨⟨s, rfl, hs⟩, hb⟩; exact ⟨by rw [of_list hs], hb⟩), fun W _ => (rshow_pct n p W a b hp' h).mono (by rintro e w' ⟨⟨s, rfl, hs⟩, hb⟩; exact ⟨by rw [of_list hs], hb⟩)⟩
    · exact ⟨⟨(35 :: Lib.decDigits n.toNat).toArray⟩, 0, fun W hW => (show_hash n W hW a b h).mono (by rintro e w' ⟨⟨s, rfl, hs⟩, hb⟩; exact ⟨by rw [of_list hs], hb⟩), fun W hW => (rshow_hash n W hW a b h).mono (by rintro e w' ⟨⟨s, rfl, hs⟩, hb⟩; exact ⟨by rw [of_list hs], hb⟩)⟩

theorem bothRead (s : ByteArray) (hn : s.size ≤ 9223372036854775807) : ∃ (v f : Int), (∀ W, Calls Tryd.prog 13 #[.string s] W fun e w' => e = .returned (.tuple #[.int .i64 v, .int .i64 f]) ∧ Below W.heap.size W w') ∧
    (∀ W, Calls Tryd.prog 26 #[.string s] W fun e w' => e = .returned (.tuple #[.int .i64 v, .int .i64 f]) ∧ Below W.heap.size W w') := by
  by_cases e1 : s.toList = [111, 117, 116]
  · rw [Lib.toList_data] at e1
    obtain rfl := of_list e1
    exact ⟨0, 0, fun W => (read_out W).mono (by rintro e w' ⟨rfl, rfl⟩; exact ⟨rfl, Below.refl _ _⟩), fun W => (rread_out W).mono (by rintro e w' ⟨rfl, rfl⟩; exact ⟨rfl, Below.refl _ _⟩)⟩
  by_cases e2 : s.toList = [102, 117, 108, 108]
  · rw [Lib.toList_data] at e2
    obtain rfl := of_list e2
    exact ⟨65535, 0, fun W => (read_full W).mono (by rintro e w' ⟨rfl, rfl⟩; exact ⟨rfl, Below.refl _ _⟩), fun W => (rread_full W).mono (by rintro e w' ⟨rfl, rfl⟩; exact ⟨rfl, Below.refl _ _⟩)⟩
  by_cases h : ∃ v, RdS 9 s v
  · obtain ⟨v, hv⟩ := h
    exact ⟨v, 0, fun W => read_good s v W hn e1 e2 hv, fun W => rread_good s v W hn e1 e2 ((rd_same s v).1 hv)⟩
  · exact ⟨0, 9, fun W => read_wrong s W hn e1 e2 h, fun W => rread_wrong s W hn e1 e2 (fun ⟨v, hv⟩ => h ⟨v, (rd_same s v).2 hv⟩)⟩

set_option maxHeartbeats 4000000 in
theorem walk (n : Int) (s : ByteArray) (w : World) (_w0 : (Lit.int .i64 n).wf = true) (w1 : s.size ≤ maxLen) (hT : TextW w) :
    Calls Tryd.prog 7 #[.int .i64 n, .string s] w fun e w' => e = .returned (.bool true) ∧ Below w.heap.size w w' := by
  obtain ⟨t, f, h1, h2⟩ := shows n
  obtain ⟨v, g, h3, h4⟩ := bothRead s w1
  have C1 := Lib.hid (h1 w hT)
  have C2 := Lib.hid (fun W (hb : Below w.heap.size w W) => h2 W (hT.below hb))
  have C3 := Lib.hid h3
  have C4 := Lib.hid h4
  clear _w0 w1 hT h1 h2 h3 h4
  go_enter Tryd.func7, Tryd.ntmps7
  go_wp2_with fail
  refine C1.out.mono ?_
  rintro e w1 ⟨rfl, hb⟩
  have HB1 := Lib.hid hb
  clear hb
  go_wp2_with fail
  refine (C2.out _ HB1.out).mono ?_
  rintro e w2 ⟨rfl, hb⟩
  have HB2 := Lib.hid (bt HB1.out hb)
  clear hb
  go_wp2_with fail
  refine (C3.out _).mono ?_
  rintro e w3 ⟨rfl, hb⟩
  have HB3 := Lib.hid (bt HB2.out hb)
  clear hb
  go_wp2_with fail
  refine (C4.out _).mono ?_
  rintro e w4 ⟨rfl, hb⟩
  have HB4 := Lib.hid (bt HB3.out hb)
  clear hb
  go_wp2
  go_ret
  exact ⟨by first | rfl | (simp; done), HB4.out⟩
end Go.Proofs.YtdicoggpcobbpaaDoor.levelTextsMatchSpec
