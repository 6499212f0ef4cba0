/- Slices of bytes as arguments. -/
import Derived.Test.YtfipkljefmfhmaaWireSum
import Derived.ProofKit
import Derived.OpenShut
import Derived.Below
namespace Go.Proofs.Ytfipkljefmfhmaa
open Go.ChangeShapes Go.WideShapes Go.RowKit

/-- a slice value whose elements are these bytes -/
def BytesV (w : World) (v : Value) (l : List UInt8) : Prop :=
  (l = [] ∧ ∃ ao cap, v = .slice ao 0 cap) ∨ (l ≠ [] ∧ l.length ≤ 9223372036854775807 ∧ ∃ b off cap, v = .slice (some ⟨b, off, none⟩) l.length cap ∧ b < w.heap.size ∧ BytesAt w b off l)

theorem bytesV_below {w W : World} {v : Value} {l : List UInt8} (hp : BytesV w v l) (hW : Below w.heap.size w W) : BytesV W v l := by
  rcases hp with ⟨h, ao, cap, rfl⟩ | ⟨h, hm, b, off, cap, rfl, hb, hp⟩
  · exact .inl ⟨h, ao, cap, rfl⟩
  · exact .inr ⟨h, hm, b, off, cap, rfl, Nat.lt_of_lt_of_le hb hW.size, fun i hi => (hW.cell hb).trans (hp i hi)⟩

theorem bytes_shape {w : World} {v : Value} {l : List UInt8} (h : BytesV w v l) : ∃ ao cap, v = .slice ao l.length cap := by
  rcases h with ⟨h, ao, cap, rfl⟩ | ⟨_, _, b, off, cap, rfl, _⟩
  · exact ⟨ao, cap, by rw [h]; rfl⟩
  · exact ⟨_, cap, rfl⟩

section
variable {H : Type} {enc : TypeId × Value → H} {w : World} {held : Bool}

set_option maxRecDepth 100000 in
theorem read_bytes {fuel : Nat} {cs : List Value} {x : DataW H × List MemPlace} (h : DataW.trod enc Try.prog w 0 (fun _ => true) held fuel 22 cs = some x) :
    ∃ v l, cs = [v] ∧ BytesV w v l := by
  rcases open_ints Try.underlying22 Try.underlying5 (by kernel_rfl) h with ⟨rfl, _⟩ | ⟨a, len, cap, zs, rfl, _, hl, hm, hz, _, hcell, hwz⟩
  · exact ⟨_, [], rfl, .inl ⟨rfl, none, 0, rfl⟩⟩
  · simp only [if_true] at hz
    have hz' : zs.length = cap := by simpa using hz
    refine ⟨_, (zs.take len).map (fun z => UInt8.ofNat z.toNat), rfl, ?_⟩
    by_cases h0 : len = 0
    · subst h0
      exact .inl ⟨by simp, some a, cap, rfl⟩
    · obtain ⟨b, off, rfl, hc⟩ := ints_at hcell (by omega)
      have hb : b < w.heap.size := World.block_lt_of_cell? w _ (hc 0 (by omega))
      refine .inr ⟨?_, ?_, b, off, cap, ?_, hb, ?_⟩
      · intro e
        have := congrArg List.length e
        rw [List.length_map, List.length_take, List.length_nil] at this
        omega
      · unfold maxLen at hm; simp; omega
      · simp; omega
      · intro i hi
        simp at hi
        have h1 := hc i (by omega)
        have h2 := hwz (zs.getD i 0) (by
          rw [List.getD_eq_getElem?_getD, List.getElem?_eq_getElem (by omega)]
          exact List.getElem_mem _)
        rw [h1]
        simp only [List.getElem_map, List.getElem_take]
        rw [List.getD_eq_getElem?_getD, List.getElem?_eq_getElem (by omega)] at h2 ⊢
        simp [Lit.wf, IntKind.min, IntKind.max, IntKind.signed, IntKind.bits] at h2 ⊢
        omega

set_option maxRecDepth 100000 in
theorem open_bytes {r : Reach} {b0 : Nat} {v : Value} {d : DataW H} {p : List MemPlace} (_hv : Value.okWide Try.prog w r b0 22 v) (h : DataW.Trod enc Try.prog w 0 (fun _ => true) held 22 v d p) :
    ∃ a : Value, v = a ∧ ∃ l, BytesV w a l := by
  obtain ⟨ao, len, cap, rfl⟩ := okWide_slice Try.underlying22 _hv
  obtain ⟨fuel, hf⟩ := h
  obtain ⟨v, l, e, hl⟩ := read_bytes hf
  simp [Value.cells] at e
  subst e
  exact ⟨_, rfl, l, hl⟩
end

set_option maxHeartbeats 1000000 in
theorem sum_empty (ao : Option Addr) (cap : Nat) (w : World) :
    Calls Try.prog 14 #[.slice ao 0 cap] w fun e w' => e = .returned (.int .i64 65535) ∧ w = w' := by
  go_enter Try.func14, Try.ntmps14
  go_wp2
  refine wp_loop_rounds 1 ?_; rw [rounds_succ]
  go_wp2
  go_ret
  exact ⟨rfl, rfl⟩
set_option maxHeartbeats 1000000 in
theorem refSum_empty (ao : Option Addr) (cap : Nat) (w : World) :
    Calls Try.prog 15 #[.slice ao 0 cap] w fun e w' => e = .returned (.int .i64 65535) ∧ w = w' := by
  go_enter Try.func15, Try.ntmps15
  go_wp2
  refine wp_loop_rounds 1 ?_; rw [rounds_succ]
  go_wp2
  go_ret
  exact ⟨rfl, rfl⟩

theorem sumV (v : Value) (l : List UInt8) (w : World) (h : BytesV w v l) :
    Calls Try.prog 14 #[v] w fun e w' => e = .returned (.int .i64 (crc l)) ∧ w = w' := by
  rcases h with ⟨rfl, ao, cap, rfl⟩ | ⟨_, hm, b, off, cap, rfl, _, hp⟩
  · exact sum_empty ao cap w
  · exact sum_any b off cap l w hm hp
theorem refSumV (v : Value) (l : List UInt8) (w : World) (h : BytesV w v l) :
    Calls Try.prog 15 #[v] w fun e w' => e = .returned (.int .i64 (crc l)) ∧ w = w' := by
  rcases h with ⟨rfl, ao, cap, rfl⟩ | ⟨_, hm, b, off, cap, rfl, _, hp⟩
  · exact refSum_empty ao cap w
  · exact refSum_any b off cap l w hm hp
end Go.Proofs.Ytfipkljefmfhmaa
