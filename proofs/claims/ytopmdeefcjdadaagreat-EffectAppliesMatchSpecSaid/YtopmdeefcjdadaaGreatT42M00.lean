import Derived.WalkKit
import Derived.Lib.Hide
namespace Go.Proofs.YtopmdeefcjdadaaGreat
open Go.RowKit
theorem gT {a:Array Value} {i:Nat} {v:Value} (h:a.getD i undef=v):a[i]?.getD undef=v:=(Array.getD_eq_getD_getElem? ..).symm.trans h
theorem gR {a:Array Value} {i:Nat} (P:Value→Prop) (h:P (a.getD i undef)):∃v,a[i]?.getD undef=v∧P v:=⟨_,(Array.getD_eq_getD_getElem? ..).symm,h⟩
theorem aS {a:Act} {d:Option Nat} {u:Value} {S:Prop} {w:World} (h:S):∃v,a.put d u=a.put d v∧v=u∧S∧Below w.heap.size w w:=⟨_,rfl,rfl,h,Below.refl _ _⟩
theorem ah {p:Prop} (h:p):Hid p:=Lib.hid h
end Go.Proofs.YtopmdeefcjdadaaGreat
