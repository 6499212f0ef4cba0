/- The two bytes of a number, appended (program) or made (reference). -/
import Derived.Test.YtfipkljefmfhmaaDecSync
namespace Go.Proofs.Ytfipkljefmfhmaa
open Go.RowKit
set_option linter.unusedVariables false
set_option linter.unusedSimpArgs false

def TwoP (base : Nat) (v : Value) (l : List UInt8) (n : Nat) (w : World) (e : Ending) (w' : World) : Prop :=
  ∃ v', e = .returned v' ∧ w'.ownsRow base 5 1 v' (l.length + 2) (bcells (l ++ b2 n)) ∧ w.grownBy w' v.ownBlock

theorem b2_cells (n : Nat) (h : n ≤ 65535) : bcells (b2 n) = [.int .u8 ((n / 256 : Nat) : Int), .int .u8 ((n % 256 : Nat) : Int)] := by
  simp [bcells, b2, UInt8.toNat_ofNat']
  omega

theorem two_cells (w : World) (n : Nat) (h : n ≤ 65535) (cs : Array Value) (hcs : cs = #[.int .u8 ((n : Int) / 256), .int .u8 ((n : Int) % 256)]) :
    ∀ j u, (bcells (b2 n))[j]? = some u → (w.alloc (.cells cs 5)).cell? ((⟨w.heap.size, 0, none⟩ : Addr).add j) = some u := by
  intro j u hu
  rw [addr_add, cell_of_row _ w.heap.size (0 + j) _ _ _ (heap_alloc_new w _), hcs]
  rw [b2_cells n h] at hu
  match j, hu with
  | 0, hu => simpa using hu
  | 1, hu => simpa using hu
  | j + 2, hu => simp at hu
theorem grown_after_alloc {w w1 : World} {o : Obj} {r : Option Nat} (h : (w.alloc o).grownBy w1 r) : w.grownBy w1 r :=
  grown_trans (World.grownBy_alloc w o r) h

set_option maxHeartbeats 2000000 in
set_option maxRecDepth 100000 in
theorem two_append (base : Nat) (v : Value) (l : List UInt8) (n : Nat) (w : World) (hn : n ≤ 65535) (hl : l.length ≤ 100000) (hb : base ≤ w.heap.size) (h : w.ownsRow base 5 1 v l.length (bcells l)) :
    Calls Try.prog 56 #[v, .int .i64 n] w (TwoP base v l n w) := by
  obtain ⟨i0, hi, hz0, hz1, hz2⟩ := info_parts byte_info
  have Hi := Lib.hid hi
  have Hz0 := Lib.hid hz0
  have Hz1 := Lib.hid hz1
  have Hz2 := Lib.hid hz2
  have HO := Lib.hid h
  clear hi hz0 hz1 hz2 h
  go_enter Try.func56, Try.ntmps56
  go_wp2_with (at_builtin; refine wpList_append_own _ rfl _ _ 22 rfl base 5 i0 (.int .u8 0) 1 1 Try.underlying22 Hi.out Hz0.out Hz1.out Hz2.out rfl (by omega) v l.length (bcells l) rfl (HO.out.alloc _) ⟨w.heap.size, 0, none⟩ 2 2 (bcells (b2 n)) rfl (by rw [bcells_len]; rfl) (two_cells w n hn _ rfl) (bcells_one _) (by unfold maxLen; omega) (by omega) (by simp; omega) ?_; intro v' w1 hown hgrow _)
  go_ret
  rw [← bcells_append] at hown
  exact ⟨v', rfl, hown, grown_after_alloc hgrow⟩
end Go.Proofs.Ytfipkljefmfhmaa
