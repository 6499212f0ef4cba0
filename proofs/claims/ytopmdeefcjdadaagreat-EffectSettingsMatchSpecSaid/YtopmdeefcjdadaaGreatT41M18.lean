import Derived.Test.YtopmdeefcjdadaaGreatT41M00
import Derived.Test.YtopmdeefcjdadaaGreatT41M16
import Derived.Test.YtopmdeefcjdadaaGreatT41M17
import Derived.Deep.DeepCutAuto
import Derived.Test.YtopmdeefcjdadaaGreatT41M02
import Derived.Test.YtopmdeefcjdadaaGreatT41M11
set_option linter.unusedVariables false
set_option linter.unusedSimpArgs false
set_option maxRecDepth 100000
set_option maxHeartbeats 32000000
namespace Go.Proofs.YtopmdeefcjdadaaGreat
open Go.RowKit
def hw (i:Nat) (N:Int):Int:=(limbs 6 N).getD i 0
theorem mo (w:World):(zeroValue 88).run Tryz.prog w=.ok (.agg #[.int .u64 0,.int .u64 0,.int .u64 0,.int .u64 0,.int .u64 0,.int .u64 0]) w:=by kernel_rfl
theorem kT:(39402006196394479212279040100143613805079739270465446667948293404245721771497210611414266254884915640806627990306815:Int)<bB 6:=by decide +kernel
theorem vY (n:Int) (h0:0≤n) (h1:n≤9223372036854775807) (w:World) :
  Calls Tryz.prog 64 #[.int .i64 n] w fun e w'=>e=.returned (.agg #[.int .u64 (hw 0 n),.int .u64 (hw 1 n),.int .u64 (hw 2 n),.int .u64 (hw 3 n),.int .u64 (hw 4 n),.int .u64 (hw 5 n)])∧Below w.heap.size w w':=hOf_any n h0 h1 w
theorem fC (N k:Int) (b:Nat) (w:World) (h0:0≤N) (k0:0≤k) (k1:k≤9223372036854775807) (hN:N<bB 6) (hf:N*k<bB 6) (hb:b<w.heap.size) (hc:w.cell? ⟨b,0,none⟩=some (.int .i64 k)) :
  Calls Tryz.prog 65 #[.agg #[.int .u64 (hw 0 N),.int .u64 (hw 1 N),.int .u64 (hw 2 N),.int .u64 (hw 3 N),.int .u64 (hw 4 N),.int .u64 (hw 5 N)],.slice (some ⟨b,0,none⟩) 1 1] w fun e w'=>e=.returned (.agg #[.int .u64 (hw 0 (N*k)),.int .u64 (hw 1 (N*k)),.int .u64 (hw 2 (N*k)),.int .u64 (hw 3 (N*k)),.int .u64 (hw 4 (N*k)),.int .u64 (hw 5 (N*k))])∧Below w.heap.size w w':=by
 have h:=zn N [k] b 0 1 w h0 (by intro x hx;simp at hx;subst hx;exact ⟨k0,k1⟩) (by
  intro j hj;have:j=0∨j=1:=by simp at hj;omega
  rcases this with rfl | rfl
  ·simpa [jv] using hN
  ·simpa [jv] using hf) hb (by
  intro i hi;have:i=0:=by simp at hi;omega
  subst this;exact hc) (by simp)
 rw [show jv [k]=k by simp [jv]] at h;exact h
theorem JA (N k m:Int) (b:Nat) (w:World) (h0:0≤N) (k0:0≤k) (k1:k≤9223372036854775807) (m0:0≤m) (m1:m≤9223372036854775807) (hN:N<bB 6) (hf:N*k<bB 6) (hg:N*(k*m)<bB 6) (hb:b<w.heap.size) (hc:w.cell? ⟨b,0,none⟩=some (.int .i64 k)) (hd:w.cell? ⟨b,1,none⟩=some (.int .i64 m)) :
  Calls Tryz.prog 65 #[.agg #[.int .u64 (hw 0 N),.int .u64 (hw 1 N),.int .u64 (hw 2 N),.int .u64 (hw 3 N),.int .u64 (hw 4 N),.int .u64 (hw 5 N)],.slice (some ⟨b,0,none⟩) 2 2] w fun e w'=>e=.returned (.agg #[.int .u64 (hw 0 (N*(k*m))),.int .u64 (hw 1 (N*(k*m))),.int .u64 (hw 2 (N*(k*m))),.int .u64 (hw 3 (N*(k*m))),.int .u64 (hw 4 (N*(k*m))),.int .u64 (hw 5 (N*(k*m)))])∧Below w.heap.size w w':=by
 have h:=zn N [k,m] b 0 2 w h0 (by intro x hx;simp at hx;rcases hx with rfl | rfl;exact ⟨k0,k1⟩;exact ⟨m0,m1⟩) (by
  intro j hj;have:j=0∨j=1∨j=2:=by simp at hj;omega
  rcases this with rfl | rfl | rfl
  ·simpa [jv] using hN
  ·simpa [jv] using hf
  ·simpa [jv] using hg) hb (by
  intro i hi;have:i=0∨i=1:=by simp at hi;omega
  rcases this with rfl | rfl
  ·exact hc
  ·exact hd) (by simp)
 rw [show jv [k,m]=k*m by simp [jv]] at h;exact h
theorem zA (N M:Int) (hN:0≤N) (hM:0≤M) (hf:N+M<bB 6) (w:World) :
  Calls Tryz.prog 69 #[.agg #[.int .u64 (hw 0 N),.int .u64 (hw 1 N),.int .u64 (hw 2 N),.int .u64 (hw 3 N),.int .u64 (hw 4 N),.int .u64 (hw 5 N)],.agg #[.int .u64 (hw 0 M),.int .u64 (hw 1 M),.int .u64 (hw 2 M),.int .u64 (hw 3 M),.int .u64 (hw 4 M),.int .u64 (hw 5 M)]] w fun e w'=>e=.returned (.agg #[.int .u64 (hw 0 (N+M)),.int .u64 (hw 1 (N+M)),.int .u64 (hw 2 (N+M)),.int .u64 (hw 3 (N+M)),.int .u64 (hw 4 (N+M)),.int .u64 (hw 5 (N+M))])∧Below w.heap.size w w':=Li N M w hN hM hf
theorem Iq (N M:Int) (hN:N<bB 6) (hM:0≤M) (hf:M≤N) (w:World) :
  Calls Tryz.prog 73 #[.agg #[.int .u64 (hw 0 N),.int .u64 (hw 1 N),.int .u64 (hw 2 N),.int .u64 (hw 3 N),.int .u64 (hw 4 N),.int .u64 (hw 5 N)],.agg #[.int .u64 (hw 0 M),.int .u64 (hw 1 M),.int .u64 (hw 2 M),.int .u64 (hw 3 M),.int .u64 (hw 4 M),.int .u64 (hw 5 M)]] w fun e w'=>e=.returned (.agg #[.int .u64 (hw 0 (N-M)),.int .u64 (hw 1 (N-M)),.int .u64 (hw 2 (N-M)),.int .u64 (hw 3 (N-M)),.int .u64 (hw 4 (N-M)),.int .u64 (hw 5 (N-M))])∧Below w.heap.size w w':=Hy N M w hN hM hf
theorem Mf (N M:Int) (hN:0≤N) (hN6:N<bB 6) (hM:0≤M) (hM6:M<bB 6) (hf:N*M<bB 6) (w:World) :
  Calls Tryz.prog 68 #[.agg #[.int .u64 (hw 0 N),.int .u64 (hw 1 N),.int .u64 (hw 2 N),.int .u64 (hw 3 N),.int .u64 (hw 4 N),.int .u64 (hw 5 N)],.agg #[.int .u64 (hw 0 M),.int .u64 (hw 1 M),.int .u64 (hw 2 M),.int .u64 (hw 3 M),.int .u64 (hw 4 M),.int .u64 (hw 5 M)]] w fun e w'=>e=.returned (.agg #[.int .u64 (hw 0 (N*M)),.int .u64 (hw 1 (N*M)),.int .u64 (hw 2 (N*M)),.int .u64 (hw 3 (N*M)),.int .u64 (hw 4 (N*M)),.int .u64 (hw 5 (N*M))])∧Below w.heap.size w w':=O6 N M w hN hN6 hM hM6 hf
theorem JB (N M:Int) (h0:0≤N) (h1:N<bB 6) (h2:0≤M) (h3:M<bB 6) (w:World) :
  Calls Tryz.prog 72 #[.agg #[.int .u64 (hw 0 N),.int .u64 (hw 1 N),.int .u64 (hw 2 N),.int .u64 (hw 3 N),.int .u64 (hw 4 N),.int .u64 (hw 5 N)],.agg #[.int .u64 (hw 0 M),.int .u64 (hw 1 M),.int .u64 (hw 2 M),.int .u64 (hw 3 M),.int .u64 (hw 4 M),.int .u64 (hw 5 M)]] w fun e w'=>e=.returned (.bool (decide (N<M)))∧Below w.heap.size w w':=Lj N M w h0 h1 h2 h3
theorem qj (W:World) (b i:Nat) (v:Value):W.grownBy (W.setCell ⟨b,i,none⟩ v) (some b):=
 ⟨rfl,rfl,rfl,by simp,fun k _ hne=>heap_setCell_other W ⟨b,i,none⟩ k v (fun e=>hne (by simp [e]))⟩
theorem kD {a b c:World} {r:Option Nat} (h:a.grownBy b r) (g:b.grownBy c r):a.grownBy c r:=
 ⟨g.os.trans h.os,g.tape.trans h.tape,g.output.trans h.output,Nat.le_trans h.size g.size,fun k hk hne=>(g.block k (Nat.lt_of_lt_of_le hk h.size) hne).trans (h.block k hk hne)⟩
theorem aY (w:World) {ops:Array Oper} {rest:List Oper} {o:Oper} {a:Act} {Q:Exit→Act→World→Prop} {x0 x1 x2 x3 x4 x5 c0 c1 c2 c3 c4 c5:Int}
  (hg:o.guard=none) (p x:Operand) (hop:o.op=Op.store 88 p x) (b:Nat) (hp:a.eval p=.pointer (some ⟨b,0,none⟩)) (hx:a.eval x=.agg #[.int .u64 x0,.int .u64 x1,.int .u64 x2,.int .u64 x3,.int .u64 x4,.int .u64 x5]) (hb:aG w b 88 #[.int .u64 c0,.int .u64 c1,.int .u64 c2,.int .u64 c3,.int .u64 c4,.int .u64 c5])
  (hK:∀w',aG w' b 88 #[.int .u64 x0,.int .u64 x1,.int .u64 x2,.int .u64 x3,.int .u64 x4,.int .u64 x5]→w.grownBy w' (some b)→wpList Tryz.prog ops Q rest (a.put o.dst undef) w'):wpList Tryz.prog ops Q (o::rest) a w:=by
 refine wpList_plain hg fun K hK'=>?_;have hT:=(((((hb.set 0 (.int .u64 x0)).set 1 (.int .u64 x1)).set 2 (.int .u64 x2)).set 3 (.int .u64 x3)).set 4 (.int .u64 x4)).set 5 (.int .u64 x5)
 have hG:w.grownBy ((((((w.setCell ⟨b,0,none⟩ (.int .u64 x0)).setCell ⟨b,1,none⟩ (.int .u64 x1)).setCell ⟨b,2,none⟩ (.int .u64 x2)).setCell ⟨b,3,none⟩ (.int .u64 x3)).setCell ⟨b,4,none⟩ (.int .u64 x4)).setCell ⟨b,5,none⟩ (.int .u64 x5)) (some b):=by
  exact kD (kD (kD (kD (kD (qj w b 0 _) (qj _ b 1 _)) (qj _ b 2 _)) (qj _ b 3 _)) (qj _ b 4 _)) (qj _ b 5 _)
 simp only [List.setIfInBounds_toArray,List.set_cons_succ,List.set_cons_zero] at hT;obtain ⟨w1,hw1⟩:∃w1:World,w1=((((((w.setCell ⟨b,0,none⟩ (.int .u64 x0)).setCell ⟨b,1,none⟩ (.int .u64 x1)).setCell ⟨b,2,none⟩ (.int .u64 x2)).setCell ⟨b,3,none⟩ (.int .u64 x3)).setCell ⟨b,4,none⟩ (.int .u64 x4)).setCell ⟨b,5,none⟩ (.int .u64 x5)):=⟨_,rfl⟩;rw [←hw1] at hT hG;have h:=hK' _ _ (hK w1 hT hG);rw [hw1] at h;have y0:=hb.cell (i:=0) rfl;have z0:=hb.frozen 0;have y1:=hb.cell (i:=1) rfl;have z1:=hb.frozen 1;have y2:=hb.cell (i:=2) rfl;have z2:=hb.frozen 2;have y3:=hb.cell (i:=3) rfl;have z3:=hb.frozen 3;have y4:=hb.cell (i:=4) rfl;have z4:=hb.frozen 4;have y5:=hb.cell (i:=5) rfl;have z5:=hb.frozen 5;clear hK hK' hT hG hw1 hb;unfold Oper.wp;simp only [execOp,hop,hp,hx];go_simp;exact h
theorem aG.fK {w w':World} {b g:Nat} {T:TypeId} {cs:Array Value} (h:aG w b T cs) (hg:w.grownBy w' (some g)) (hne:b≠g):aG w' b T cs:=(hg.block b h.lt (by intro e;injection e with e;exact hne e)).trans h
theorem aX {B:Nat} {a b c:World} {g:Nat} (h:Below B a b) (k:b.grownBy c (some g)) (hB:B≤b.heap.size) (hg:B≤g):Below B a c:=h.grown k hB (fun j hj=>by cases hj;exact hg)
def aS (n d:Int):Int:=if 2*n≤d then 2*n else 2*d-2*n
theorem qI {n d:Int} (h0:0≤n) (h1:n≤d):0≤aS n d∧aS n d≤d:=by
 unfold aS;split<;>omega
theorem Er (n d k i:Int) (w:World) (h0:0≤n) (h1:n≤d) (h2:d≤1000000000000000000) :
  Calls Tryz.prog 132 #[.agg #[.int .i64 n,.int .i64 d,.int .i64 k,.int .i64 i]] w fun e w'=>e=.returned (.int .i64 (aS n d))∧Below w.heap.size w w':=by
 have a1:IntKind.i64.wrap (2*n)=2*n:=IntWalk.i64_in _ (by omega);have a2:IntKind.i64.wrap (2*d)=2*d:=IntWalk.i64_in _ (by omega);have a3:IntKind.i64.wrap (2*d-2*n)=2*d-2*n:=IntWalk.i64_in _ (by omega);by_cases h:2*n≤d
 ·have HV:=ah (show aS n d=2*n from if_pos h);go_enter Tryz.func132,Tryz.ntmps132;go_wp2_with fail;go_ret;exact ⟨by rw [HV.out]<;>rfl,(Below.refl _ _).alloc (Nat.le_refl _) _⟩
 ·have HV:=ah (show aS n d=2*d-2*n from if_neg h);go_enter Tryz.func132,Tryz.ntmps132;go_wp2_with fail;go_ret;exact ⟨by rw [HV.out]<;>rfl,(Below.refl _ _).alloc (Nat.le_refl _) _⟩
theorem BH (n d k i:Int) (w:World) (hn0:0≤n) (hnd:n≤d) (hd1:d≤1000000000000000000) :
  Calls Tryz.prog 133 #[.agg #[],.agg #[.int .i64 n,.int .i64 d,.int .i64 k,.int .i64 i]] w fun e w'=>e=.returned (.tuple #[.agg #[.int .u64 (hw 0 (aS n d)),.int .u64 (hw 1 (aS n d)),.int .u64 (hw 2 (aS n d)),.int .u64 (hw 3 (aS n d)),.int .u64 (hw 4 (aS n d)),.int .u64 (hw 5 (aS n d))],.agg #[.int .u64 (hw 0 d),.int .u64 (hw 1 d),.int .u64 (hw 2 d),.int .u64 (hw 3 d),.int .u64 (hw 4 d),.int .u64 (hw 5 d)]])∧Below w.heap.size w w':=by
 have hd0:0≤d:=by omega
 have hd2:d≤9223372036854775807:=by omega
 obtain ⟨hp0,hp2⟩:=qI hn0 hnd;have hp1:aS n d≤9223372036854775807:=by omega
 have HT1:=ah (show aG ((((w.alloc (.cells #[] 145)).alloc (.cells #[.int .i64 n,.int .i64 d,.int .i64 k,.int .i64 i] 123)).alloc (.cells #[.int .u64 0,.int .u64 0,.int .u64 0,.int .u64 0,.int .u64 0,.int .u64 0] 88)).alloc (.cells #[.int .u64 0,.int .u64 0,.int .u64 0,.int .u64 0,.int .u64 0,.int .u64 0] 88)) (w.heap.size+1) 123 #[.int .i64 n,.int .i64 d,.int .i64 k,.int .i64 i] from by
  have h:=((aG.new (w.alloc (.cells #[] 145)) #[.int .i64 n,.int .i64 d,.int .i64 k,.int .i64 i] 123).alloc (.cells #[.int .u64 0,.int .u64 0,.int .u64 0,.int .u64 0,.int .u64 0,.int .u64 0] 88)).alloc (.cells #[.int .u64 0,.int .u64 0,.int .u64 0,.int .u64 0,.int .u64 0,.int .u64 0] 88);simpa only [World.size_alloc] using h)
 have HT2:=ah (show aG ((((w.alloc (.cells #[] 145)).alloc (.cells #[.int .i64 n,.int .i64 d,.int .i64 k,.int .i64 i] 123)).alloc (.cells #[.int .u64 0,.int .u64 0,.int .u64 0,.int .u64 0,.int .u64 0,.int .u64 0] 88)).alloc (.cells #[.int .u64 0,.int .u64 0,.int .u64 0,.int .u64 0,.int .u64 0,.int .u64 0] 88)) (w.heap.size+2) 88 #[.int .u64 0,.int .u64 0,.int .u64 0,.int .u64 0,.int .u64 0,.int .u64 0] from by
  have h:=(aG.new ((w.alloc (.cells #[] 145)).alloc (.cells #[.int .i64 n,.int .i64 d,.int .i64 k,.int .i64 i] 123)) #[.int .u64 0,.int .u64 0,.int .u64 0,.int .u64 0,.int .u64 0,.int .u64 0] 88).alloc (.cells #[.int .u64 0,.int .u64 0,.int .u64 0,.int .u64 0,.int .u64 0,.int .u64 0] 88);simpa only [World.size_alloc] using h)
 have HT3:=ah (show aG ((((w.alloc (.cells #[] 145)).alloc (.cells #[.int .i64 n,.int .i64 d,.int .i64 k,.int .i64 i] 123)).alloc (.cells #[.int .u64 0,.int .u64 0,.int .u64 0,.int .u64 0,.int .u64 0,.int .u64 0] 88)).alloc (.cells #[.int .u64 0,.int .u64 0,.int .u64 0,.int .u64 0,.int .u64 0,.int .u64 0] 88)) (w.heap.size+3) 88 #[.int .u64 0,.int .u64 0,.int .u64 0,.int .u64 0,.int .u64 0,.int .u64 0] from by
  have h:=aG.new (((w.alloc (.cells #[] 145)).alloc (.cells #[.int .i64 n,.int .i64 d,.int .i64 k,.int .i64 i] 123)).alloc (.cells #[.int .u64 0,.int .u64 0,.int .u64 0,.int .u64 0,.int .u64 0,.int .u64 0] 88)) #[.int .u64 0,.int .u64 0,.int .u64 0,.int .u64 0,.int .u64 0,.int .u64 0] 88;simpa only [World.size_alloc] using h)
 have HB:=ah (show Below w.heap.size w ((((w.alloc (.cells #[] 145)).alloc (.cells #[.int .i64 n,.int .i64 d,.int .i64 k,.int .i64 i] 123)).alloc (.cells #[.int .u64 0,.int .u64 0,.int .u64 0,.int .u64 0,.int .u64 0,.int .u64 0] 88)).alloc (.cells #[.int .u64 0,.int .u64 0,.int .u64 0,.int .u64 0,.int .u64 0,.int .u64 0] 88)) from ((((Below.refl _ _).alloc (Nat.le_refl _) _).alloc (by simp) _).alloc (by simp;omega) _).alloc (by simp;omega) _);go_enter Tryz.func133,Tryz.ntmps133;go_upto_region 1 with fail;generalize hw1:((((w.alloc (.cells #[] 145)).alloc (.cells #[.int .i64 n,.int .i64 d,.int .i64 k,.int .i64 i] 123)).alloc (.cells #[.int .u64 0,.int .u64 0,.int .u64 0,.int .u64 0,.int .u64 0,.int .u64 0] 88)).alloc (.cells #[.int .u64 0,.int .u64 0,.int .u64 0,.int .u64 0,.int .u64 0,.int .u64 0] 88))=w1 at *;clear hw1;refine aV (by kernel_rfl) 6 (by simp) (by kernel_rfl) (by kernel_rfl) (by kernel_rfl) (by kernel_rfl) (fun jx vx wx=>match jx with | 0=>vx=(.agg #[.int .i64 n,.int .i64 d,.int .i64 k,.int .i64 i]) | 1=>vx=(.int .i64 (aS n d)) | 2=>vx=(.agg #[.int .u64 (hw 0 (aS n d)),.int .u64 (hw 1 (aS n d)),.int .u64 (hw 2 (aS n d)),.int .u64 (hw 3 (aS n d)),.int .u64 (hw 4 (aS n d)),.int .u64 (hw 5 (aS n d))]) | 3=>vx=(.pointer (some ⟨w.heap.size+1,1,none⟩)) | 4=>vx=(.int .i64 d) | 5=>vx=(.agg #[.int .u64 (hw 0 d),.int .u64 (hw 1 d),.int .u64 (hw 2 d),.int .u64 (hw 3 d),.int .u64 (hw 4 d),.int .u64 (hw 5 d)]) | _=>True) (fun W=>Below w1.heap.size w1 W) (fun wx wy=>Below wx.heap.size wx wy) (Below.refl _ _).drew ?_ ?_ ?_ ?_
 ·intro jx vx wx wy h g
  match jx,h with
  | 0,h | 1,h | 2,h | 3,h | 4,h | 5,h=>exact h
  | jx+6,h=>exact trivial
 ·intro jx ox dx hj ho hd;exact bN (by kernel_rfl) hj ho hd
 ·intro ix ox ax W hi aB hsh hW hpre;have hsz:w1.heap.size≤W.heap.size:=hW.size;have GA:∀ob,Below W.heap.size W (W.alloc ob):=fun ob=>(Below.refl _ _).alloc (Nat.le_refl _) ob;have WA:∀ob,Below w1.heap.size w1 (W.alloc ob):=fun ob=>hW.alloc hsz ob;have t3:ax.tmps[3]?.getD undef=(.pointer (some ⟨w.heap.size+1,0,none⟩)):=gT (hsh.2.2 3 (aL (by kernel_rfl)));obtain ⟨q0,q1,q2,q3⟩:W.cell? ⟨w.heap.size+1,0,none⟩=some (.int .i64 n)∧W.cell? ⟨w.heap.size+1,1,none⟩=some (.int .i64 d)∧W.cell? ⟨w.heap.size+1,2,none⟩=some (.int .i64 k)∧W.cell? ⟨w.heap.size+1,3,none⟩=some (.int .i64 i):=⟨(HT1.out.below hW).cell (i:=0) rfl,(HT1.out.below hW).cell (i:=1) rfl,(HT1.out.below hW).cell (i:=2) rfl,(HT1.out.below hW).cell (i:=3) rfl⟩;clear hsh
  match ix,hi,aB with
  | 0,_,aB=>
   cases aB;exact au (w':=W) (by simp [execOp,Act.eval,t3,q0,q1,q2,q3,go_sem]) (aR hW)
  | 1,_,aB=>
   cases aB;have f0:=gT (hpre ⟨0,.data⟩ (by simp) (by rfl) _ _ rfl rfl);refine aF (by simp [execOp,Act.eval,f0,go_sem]) ((Er n d k i W hn0 hnd hd1).mono ?_);rintro ex wy ⟨rfl,hb⟩;exact ⟨_,rfl,_,rfl,rfl,hW.trans (hb.mono hsz),hb⟩
  | 2,_,aB=>
   cases aB;have f1:=gT (hpre ⟨1,.data⟩ (by simp) (by rfl) _ _ rfl rfl);refine aF (by simp [execOp,Act.eval,f1,go_sem]) ((vY _ hp0 hp1 W).mono ?_);rintro ex wy ⟨rfl,hb⟩;exact ⟨_,rfl,_,rfl,rfl,hW.trans (hb.mono hsz),hb⟩
  | 3,_,aB=>
   cases aB;exact au (w':=W) (by simp [execOp,Act.eval,t3,go_sem]) (aR hW)
  | 4,_,aB=>
   cases aB;have f3:=gT (hpre ⟨3,.data⟩ (by simp) (by rfl) _ _ rfl rfl);exact au (w':=W) (by simp [execOp,Act.eval,q1,f3,go_sem]) (aR hW)
  | 5,_,aB=>
   cases aB;have f4:=gT (hpre ⟨4,.data⟩ (by simp) (by rfl) _ _ rfl rfl);refine aF (by simp [execOp,Act.eval,f4,go_sem]) ((vY d hd0 hd2 W).mono ?_);rintro ex wy ⟨rfl,hb⟩;exact ⟨_,rfl,_,rfl,rfl,hW.trans (hb.mono hsz),hb⟩
  | ix+6,hi,_=>exact absurd hi (by omega)
 ·intro ax W hsh hW hφ;have e0:=hφ 0 _ _ (by omega) rfl rfl;have e1:=hφ 1 _ _ (by omega) rfl rfl;have e2:=hφ 2 _ _ (by omega) rfl rfl;have e3:=hφ 3 _ _ (by omega) rfl rfl;have e4:=hφ 4 _ _ (by omega) rfl rfl;have e5:=hφ 5 _ _ (by omega) rfl rfl;rw [aZ hsh [(6,_),(7,_),(8,_),(9,_),(10,_),(11,_)] [6,7,8,9,10,11] rfl (by kernel_rfl) ⟨e0,e1,e2,e3,e4,e5,trivial⟩];clear hφ hsh e0 e1 e2 e3 e4 e5;simp only [bZ,List.foldl_cons,List.foldl_nil,List.drop_succ_cons,List.drop_zero,Act.put,List.setIfInBounds_toArray,List.set_cons_succ,List.set_cons_zero];have bG:=ah (HB.out.trans (hW.mono (by have:=HT3.out.lt;omega)));have r2:=HT2.out.below hW;have r3:=HT3.out.below hW;clear hW;refine aY W rfl _ _ rfl (w.heap.size+2) rfl rfl r2 ?_;intro wy t2 g2;simp only [Act.put];refine aY wy rfl _ _ rfl (w.heap.size+3) rfl rfl (r3.fK g2 (by omega)) ?_;intro wz t3 g3;simp only [Act.put];have t2':=t2.fK g3 (by omega);have gV:=ah (aX (aX bG.out g2 bG.out.size (by omega)) g3 (by have:=bG.out.size;have:=g2.size;omega) (by omega));have x0:=t2'.cell (i:=0) rfl;have y0:=t3.cell (i:=0) rfl;have x1:=t2'.cell (i:=1) rfl;have y1:=t3.cell (i:=1) rfl;have x2:=t2'.cell (i:=2) rfl;have y2:=t3.cell (i:=2) rfl;have x3:=t2'.cell (i:=3) rfl;have y3:=t3.cell (i:=3) rfl;have x4:=t2'.cell (i:=4) rfl;have y4:=t3.cell (i:=4) rfl;have x5:=t2'.cell (i:=5) rfl;have y5:=t3.cell (i:=5) rfl;clear t2 t2' t3 g2 g3 r2 r3 bG;go_wp2_with fail;exact bodyPost_ret (v:=.tuple #[.agg #[.int .u64 (hw 0 (aS n d)),.int .u64 (hw 1 (aS n d)),.int .u64 (hw 2 (aS n d)),.int .u64 (hw 3 (aS n d)),.int .u64 (hw 4 (aS n d)),.int .u64 (hw 5 (aS n d))],.agg #[.int .u64 (hw 0 d),.int .u64 (hw 1 d),.int .u64 (hw 2 d),.int .u64 (hw 3 d),.int .u64 (hw 4 d),.int .u64 (hw 5 d)]]) (by simp [results,Tryz.results133,go_sem,x0,y0,x1,y1,x2,y2,x3,y3,x4,y4,x5,y5]) rfl ⟨rfl,gV.out⟩
def pW (wd n d:Int):Int:=if n*1000<wd*d then 1 else 0
def chZ (i k:Int):Int:=IntKind.u64.wrap (IntKind.u64.wrap (wrap64 (wrap64 (wrap64 (1000003*i)+k)+20))*11400714819323198485)
def chX (z:Int):Int:=bits BinOp.xor IntKind.u64 z (z / 536870912)
def nU (i k:Int):Int:=IntKind.u64.wrap (13787848793156543929*chX (chZ i k)) / 281474976710656
theorem sw (i k:Int):0≤nU i k∧nU i k≤65535:=by
 unfold nU;generalize 13787848793156543929*chX (chZ i k)=x;rw [IntKind.wrap_u64];omega
theorem Jz (i k:Int):wrap64 (IntKind.u64.wrap (13787848793156543929*bits BinOp.xor IntKind.u64 (IntKind.u64.wrap (IntKind.u64.wrap (wrap64 (wrap64 (wrap64 (1000003*i)+k)+20))*11400714819323198485)) (IntKind.u64.wrap (IntKind.u64.wrap (wrap64 (wrap64 (wrap64 (1000003*i)+k)+20))*11400714819323198485) / 536870912)) / 281474976710656)=nU i k:=by
 have h:=sw i k;exact IntWalk.wrap64_in (nU i k) (by omega)
def jV (L:List Stp) (j:Nat):Stp:=L.getD j ⟨0,0,0⟩
def gX (L:List Stp) (p d:Int):Nat→Nat→Int→Int×Int
 | 0,_,_=>(0,1)
 | c+1,j,b=>
  if p<d*(b+(jV L j).hold) then ((jV L j).lv,65535)
  else if p<d*(b+(jV L j).hold+(jV L j).bD) then
   ((d*(jV L j).bD-(p-d*(b+(jV L j).hold)))*(jV L j).lv+(p-d*(b+(jV L j).hold))*(jV L ((j+1) % L.length)).lv,d*(jV L j).bD*65535)
  else gX L p d c (j+1) (b+(jV L j).hold+(jV L j).bD)
theorem Ay {L:List Stp} {p d:Int} {c j:Nat} {b:Int} (h:p<d*(b+(jV L j).hold)):gX L p d (c+1) j b=((jV L j).lv,65535):=by unfold gX;rw [if_pos h]
theorem Jf {L:List Stp} {p d:Int} {c j:Nat} {b:Int} (h:¬p<d*(b+(jV L j).hold)) (h2:p<d*(b+(jV L j).hold+(jV L j).bD)) :
  gX L p d (c+1) j b=((d*(jV L j).bD-(p-d*(b+(jV L j).hold)))*(jV L j).lv+(p-d*(b+(jV L j).hold))*(jV L ((j+1) % L.length)).lv,d*(jV L j).bD*65535):=by unfold gX;rw [if_neg h,if_pos h2]
theorem DZ {L:List Stp} {p d:Int} {c j:Nat} {b:Int} (h:¬p<d*(b+(jV L j).hold)) (h2:¬p<d*(b+(jV L j).hold+(jV L j).bD)) :
  gX L p d (c+1) j b=gX L p d c (j+1) (b+(jV L j).hold+(jV L j).bD):=by rw [gX,if_neg h,if_neg h2]
theorem nZ {L:List Stp} {j:Nat} (h:j<L.length):jV L j=L[j]:=by unfold jV;rw [List.getD_eq_getElem?_getD,List.getElem?_eq_getElem h];rfl
def F6 (w:World) (lo:Option Addr) (cap:Nat) (L:List Stp) (kF n d k i:Int) (pb:Nat) (p:Int) (W:World):Prop:=
 (aG W w.heap.size 153 #[.slice lo L.length cap,.int .i64 kF]∧aG W (w.heap.size+1) 123 #[.int .i64 n,.int .i64 d,.int .i64 k,.int .i64 i])∧(aG W (w.heap.size+2) 88 #[.int .u64 0,.int .u64 0,.int .u64 0,.int .u64 0,.int .u64 0,.int .u64 0]∧aG W (w.heap.size+3) 88 #[.int .u64 0,.int .u64 0,.int .u64 0,.int .u64 0,.int .u64 0,.int .u64 0])∧aG W pb 88 #[.int .u64 (hw 0 p),.int .u64 (hw 1 p),.int .u64 (hw 2 p),.int .u64 (hw 3 p),.int .u64 (hw 4 p),.int .u64 (hw 5 p)]∧w.heap.size+4≤pb∧Below w.heap.size w W
section
variable {w:World} {lo:Option Addr} {cap:Nat} {L:List Stp} {kF n d k i:Int} {pb:Nat} {p:Int} {W W':World}
theorem F6.below (h:F6 w lo cap L kF n d k i pb p W) (hb:Below W.heap.size W W'):F6 w lo cap L kF n d k i pb p W':=by
 obtain ⟨⟨a,b⟩,⟨c,e⟩,f,g,j⟩:=h;exact ⟨⟨a.below hb,b.below hb⟩,⟨c.below hb,e.below hb⟩,f.below hb,g,j.trans (hb.mono j.size)⟩
theorem F6.fK {g:Nat} (h:F6 w lo cap L kF n d k i pb p W) (hg:W.grownBy W' (some g)) (h1:w.heap.size+4≤g) (h2:g≠pb):F6 w lo cap L kF n d k i pb p W':=by
 obtain ⟨⟨a,b⟩,⟨c,e⟩,f,g',j⟩:=h;exact ⟨⟨a.fK hg (by omega),b.fK hg (by omega)⟩,⟨c.fK hg (by omega),e.fK hg (by omega)⟩,f.fK hg (Ne.symm h2),g',aX j hg j.size (by omega)⟩
theorem F6.size (h:F6 w lo cap L kF n d k i pb p W):w.heap.size+4≤W.heap.size∧pb<W.heap.size:=by
 obtain ⟨_,⟨_,e⟩,f,g,j⟩:=h;have:=f.lt;omega
theorem F6.pc (h:F6 w lo cap L kF n d k i pb p W):W.cell? ⟨w.heap.size+1,0,none⟩=some (.int .i64 n)∧W.cell? ⟨w.heap.size+1,1,none⟩=some (.int .i64 d):=⟨h.1.2.cell (i:=0) rfl,h.1.2.cell (i:=1) rfl⟩
theorem F6.sc (h:F6 w lo cap L kF n d k i pb p W):W.cell? ⟨w.heap.size,0,none⟩=some (.slice lo L.length cap)∧W.cell? ⟨w.heap.size,1,none⟩=some (.int .i64 kF):=⟨h.1.1.cell (i:=0) rfl,h.1.1.cell (i:=1) rfl⟩
theorem F6.bel (h:F6 w lo cap L kF n d k i pb p W):Below w.heap.size w W:=h.2.2.2.2
end
theorem bF {W:World} {b:Nat} {p:Int} (h:aG W b 88 #[.int .u64 (hw 0 p),.int .u64 (hw 1 p),.int .u64 (hw 2 p),.int .u64 (hw 3 p),.int .u64 (hw 4 p),.int .u64 (hw 5 p)]):W.cell? ⟨b,0,none⟩=some (.int .u64 (hw 0 p))∧W.cell? ⟨b,1,none⟩=some (.int .u64 (hw 1 p))∧W.cell? ⟨b,2,none⟩=some (.int .u64 (hw 2 p))∧W.cell? ⟨b,3,none⟩=some (.int .u64 (hw 3 p))∧W.cell? ⟨b,4,none⟩=some (.int .u64 (hw 4 p))∧W.cell? ⟨b,5,none⟩=some (.int .u64 (hw 5 p)):=⟨h.cell (i:=0) rfl,h.cell (i:=1) rfl,h.cell (i:=2) rfl,h.cell (i:=3) rfl,h.cell (i:=4) rfl,h.cell (i:=5) rfl⟩
theorem nY {W:World} {b:Nat} {x y z:Int} (h:aG W b 109 #[.int .i64 x,.int .i64 y,.int .i64 z]):W.cell? ⟨b,0,none⟩=some (.int .i64 x)∧W.cell? ⟨b,1,none⟩=some (.int .i64 y)∧W.cell? ⟨b,2,none⟩=some (.int .i64 z):=⟨h.cell (i:=0) rfl,h.cell (i:=1) rfl,h.cell (i:=2) rfl⟩
theorem MU (w:World):(zeroValue 109).run Tryz.prog w=.ok (.agg #[.int .i64 0,.int .i64 0,.int .i64 0]) w:=by kernel_rfl
theorem cZ {w W:World} {ao:Option Addr} {l:List Stp} (h:dV w.heap.size w ao l) (hb:Below w.heap.size w W):dV W.heap.size W ao l:=fun hne=>by
 obtain ⟨b,off,rfl,h1,h2⟩:=h hne;refine ⟨b,off,rfl,Nat.lt_of_lt_of_le h1 hb.size,fun i hi=>?_⟩;obtain ⟨c0,c1,c2⟩:=h2 i hi;exact ⟨(hb.cell (p:=⟨b,off+i*3,none⟩) h1).trans c0,(hb.cell (p:=⟨b,off+i*3+1,none⟩) h1).trans c1,(hb.cell (p:=⟨b,off+i*3+2,none⟩) h1).trans c2⟩
def zI (aH:Bool) (y d:Int):Int:=if aH=true∧0<y % d then d-y % d else y % d
def jU (c count:Int):Int:=100*c*1000*count
def lV (c ak aK count clock:Int):Int:=clock*1000*count-ak*aK*100*c
theorem iZ (aH:Bool) (y:Int) {d:Int} (h:0<d):0≤zI aH y d∧zI aH y d≤d:=by
 have h1:=Int.emod_nonneg y (show d≠0 by omega);have h2:=Int.emod_lt_of_pos y h;unfold zI;split<;>omega
theorem dA {a b A B:Int} (h1:0≤a) (h2:0≤b) (h3:a≤A) (h4:b≤B):0≤a*b∧a*b≤A*B:=
 ⟨Int.mul_nonneg h1 h2,Int.le_trans (Int.mul_le_mul_of_nonneg_right h3 h2) (Int.mul_le_mul_of_nonneg_left h4 (by omega))⟩
theorem xJ {a b A B:Int} (h1:-A≤a) (h2:a≤A) (h3:0≤b) (h4:b≤B):-(A*B)≤a*b∧a*b≤A*B:=by
 have k1:a*b≤A*b:=Int.mul_le_mul_of_nonneg_right h2 h3;have k2:-A*b≤a*b:=Int.mul_le_mul_of_nonneg_right h1 h3;have k3:A*b≤A*B:=Int.mul_le_mul_of_nonneg_left h4 (by omega);rw [Int.neg_mul] at k2;omega
theorem gQ {c count:Int} (c0:1≤c) (c1:c≤3600000) (n0:1≤count) (n1:count≤400):1≤jU c count∧jU c count≤144000000000000:=by
 unfold jU;have h1:=dA (a:=100*c*1000) (b:=count) (A:=360000000000) (B:=400) (by omega) (by omega) (by omega) n1;have h2:100*c*1000*1≤100*c*1000*count:=Int.mul_le_mul_of_nonneg_left n0 (by omega);omega
theorem kP (aJ low aC ay av ak:Int) (aH rel:Bool) (ao:Option Addr) (cap:Nat) (l:List Stp) (aK count clock c:Int) (w:World) (hs:dV w.heap.size w ao l) (hl:l.length≤50) (hall:l.all fJ=true) (hc:0≤ay∧ay≤3600000)
  (hcc:ay+cK l=c) (c0:1≤c) (c1:c≤3600000) (n0:1≤count) (n1:count≤400) (i0:0≤aK) (i1:aK≤400) (k0:0≤clock) (k1:clock≤36360000000) (s0:-10000≤ak) (s1:ak≤10000) :
  Calls Tryz.prog 67 #[.agg #[.int .i64 aJ,.int .i64 low,.int .i64 aC,.int .i64 ay,.int .i64 av,.int .i64 ak,.bool aH,.bool rel,.slice ao l.length cap],.int .i64 aK,.int .i64 count,.int .i64 clock] w fun e w'=>e=.returned (.agg #[.int .i64 (zI aH (lV c ak aK count clock) (jU c count)),.int .i64 (jU c count),.int .i64 (lV c ak aK count clock / jU c count),.int .i64 aK])∧Below w.heap.size w w':=by
 have CC:=ah (fun (W:World) (hb:Below w.heap.size w W)=>vU aJ low aC ay av ak aH rel ao cap l W (cZ hs hb) hl hall hc);rw [hcc] at CC;have HR:=ah (show ∀D Y:Int,zI aH Y D=if aH=true∧0<Y % D then D-Y % D else Y % D from fun _ _=>rfl);obtain ⟨d0,d1⟩:=gQ c0 c1 n0 n1;have b1:=dA (a:=clock*1000) (b:=count) (A:=36360000000000) (B:=400) (by omega) (by omega) (by omega) n1;have b2:=xJ (a:=ak) (b:=aK) (A:=10000) (B:=400) s0 s1 i0 i1;have b3:=xJ (a:=ak*aK*100) (b:=c) (A:=400000000) (B:=3600000) (by omega) (by omega) (by omega) c1;have hD:100*c*1000*count=jU c count:=rfl;have hY:clock*1000*count-ak*aK*100*c=lV c ak aK count clock:=rfl;have e1:IntKind.i64.wrap (100*c)=100*c:=IntWalk.i64_in _ (by omega);have e2:IntKind.i64.wrap (100*c*1000)=100*c*1000:=IntWalk.i64_in _ (by omega);have e3:IntKind.i64.wrap (100*c*1000*count)=jU c count:=by rw [hD];exact IntWalk.i64_in _ (by omega)
 have e4:IntKind.i64.wrap (clock*1000)=clock*1000:=IntWalk.i64_in _ (by omega);have e5:IntKind.i64.wrap (clock*1000*count)=clock*1000*count:=IntWalk.i64_in _ (by omega);have e6:IntKind.i64.wrap (ak*aK)=ak*aK:=IntWalk.i64_in _ (by omega);have e7:IntKind.i64.wrap (ak*aK*100)=ak*aK*100:=IntWalk.i64_in _ (by omega);have e8:IntKind.i64.wrap (ak*aK*100*c)=ak*aK*100*c:=IntWalk.i64_in _ (by omega);have e9:IntKind.i64.wrap (clock*1000*count-ak*aK*100*c)=lV c ak aK count clock:=by rw [hY];exact IntWalk.i64_in _ (by omega)
 have hyr:-20000000000000000≤lV c ak aK count clock∧lV c ak aK count clock≤20000000000000000:=by omega
 clear hY hD b1 b3;generalize lV c ak aK count clock=Y at *;generalize jU c count=D at *;have hm:=Int.emod_add_mul_ediv Y D;have hm1:=Int.emod_nonneg Y (show D≠0 by omega);have hm2:=Int.emod_lt_of_pos Y (show 0<D by omega);have hq1:Y / D≤20000000000000000:=Int.le_trans (Int.ediv_le_ediv (by omega) hyr.2) (Int.ediv_le_self _ (by omega))
 have hq0:-20000000000000001≤Y / D:=by
  rw [Int.le_ediv_iff_mul_le (by omega)];omega
 have HFL:=ah (fun W=>Lv Y D W (by omega) (by omega) (by omega) (by omega));have hqd:D*(Y / D)=Y-Y % D:=by omega
 have hqc:Y / D*D=Y-Y % D:=by rw [Int.mul_comm];exact hqd
 generalize Y / D=q at *;generalize hrr:Y % D=r at *;have e10:IntKind.i64.wrap (q*D)=q*D:=by rw [hqc];exact IntWalk.i64_in _ (by omega)
 have e11:IntKind.i64.wrap (Y-q*D)=r:=by rw [hqc,show Y-(Y-r)=r by omega];exact IntWalk.i64_in _ (by omega)
 have e12:IntKind.i64.wrap (D-r)=D-r:=IntWalk.i64_in _ (by omega);clear hm hqd hqc;have HT:=ah (show aG ((w.alloc (.cells #[.int .i64 aJ,.int .i64 low,.int .i64 aC,.int .i64 ay,.int .i64 av,.int .i64 ak,.bool aH,.bool rel,.slice ao l.length cap] 28)).alloc (.cells #[.int .i64 0,.int .i64 0,.int .i64 0,.int .i64 0] 123)) w.heap.size 28 #[.int .i64 aJ,.int .i64 low,.int .i64 aC,.int .i64 ay,.int .i64 av,.int .i64 ak,.bool aH,.bool rel,.slice ao l.length cap] from (aG.new w _ _).alloc _)
 have HP:=ah (show aG ((w.alloc (.cells #[.int .i64 aJ,.int .i64 low,.int .i64 aC,.int .i64 ay,.int .i64 av,.int .i64 ak,.bool aH,.bool rel,.slice ao l.length cap] 28)).alloc (.cells #[.int .i64 0,.int .i64 0,.int .i64 0,.int .i64 0] 123)) (w.heap.size+1) 123 #[.int .i64 0,.int .i64 0,.int .i64 0,.int .i64 0] from by
  have h:=aG.new (w.alloc (.cells #[.int .i64 aJ,.int .i64 low,.int .i64 aC,.int .i64 ay,.int .i64 av,.int .i64 ak,.bool aH,.bool rel,.slice ao l.length cap] 28)) #[.int .i64 0,.int .i64 0,.int .i64 0,.int .i64 0] 123;simpa only [World.size_alloc] using h)
 have HB:=ah (show Below w.heap.size w ((w.alloc (.cells #[.int .i64 aJ,.int .i64 low,.int .i64 aC,.int .i64 ay,.int .i64 av,.int .i64 ak,.bool aH,.bool rel,.slice ao l.length cap] 28)).alloc (.cells #[.int .i64 0,.int .i64 0,.int .i64 0,.int .i64 0] 123)) from ((Below.refl _ _).alloc (Nat.le_refl _) _).alloc (by simp) _);have CC1:=ah (CC.out _ HB.out);clear CC hs hall;go_enter Tryz.func67,Tryz.ntmps67;go_wp2_with fail;refine CC1.out.mono ?_;rintro e w2 ⟨rfl,hb⟩;have hsz:w.heap.size+2≤w2.heap.size:=by have:=hb.size;simp at this;omega
 have hlt1:w.heap.size<w2.heap.size:=by omega
 have hlt2:w.heap.size+1<w2.heap.size:=by omega
 have HT2:=ah (HT.out.below hb);have FW:=ah (HP.out.below hb);have HB2:=ah (HB.out.trans (hb.mono (by simp;omega)));clear CC1 hb HT HP HB;have f5:=HT2.out.cell (i:=5) rfl;have f6:=HT2.out.cell (i:=6) rfl;have r0:=FW.out.cell (i:=0) rfl;have r1:=FW.out.cell (i:=1) rfl;have r2:=FW.out.cell (i:=2) rfl;have r3:=FW.out.cell (i:=3) rfl;have rf0:=FW.out.frozen 0;have rf1:=FW.out.frozen 1;have rf2:=FW.out.frozen 2;have rf3:=FW.out.frozen 3;go_wp2_with fail;refine (HFL.out _).mono ?_;rintro e wz ⟨rfl,rfl⟩;cases aH
 ·have HV:=ah (show zI false Y D=r by rw [HR.out,if_neg (by simp),hrr]);clear hrr;go_wp2_with fail;exact bodyPost_ret (v:=.agg #[.int .i64 r,.int .i64 D,.int .i64 q,.int .i64 aK]) (by simp [results,Tryz.results67,go_sem,r0,r1,r2,r3,hlt2,World.cell?_alloc_past]) rfl ⟨by rw [HV.out],by repeat (first | exact HB2.out | refine Below.setCell ?_ (by simp;try omega) _ | refine Below.alloc ?_ (by simp;try omega) _)⟩
 ·by_cases hr0:0<r
  ·have HV:=ah (show zI true Y D=D-r by rw [HR.out,hrr,if_pos ⟨rfl,hr0⟩]);clear hrr;go_wp2_with fail;exact bodyPost_ret (v:=.agg #[.int .i64 (D-r),.int .i64 D,.int .i64 q,.int .i64 aK]) (by simp [results,Tryz.results67,go_sem,r0,r1,r2,r3,hlt2,World.cell?_alloc_past]) rfl ⟨by rw [HV.out],by repeat (first | exact HB2.out | refine Below.setCell ?_ (by simp;try omega) _ | refine Below.alloc ?_ (by simp;try omega) _)⟩
  ·have HV:=ah (show zI true Y D=r by rw [HR.out,hrr,if_neg (fun h=>hr0 h.2)]);have hr1:decide (0<r)=false:=by simpa using hr0
   clear hrr;go_wp2_with fail;exact bodyPost_ret (v:=.agg #[.int .i64 r,.int .i64 D,.int .i64 q,.int .i64 aK]) (by simp [results,Tryz.results67,go_sem,r0,r1,r2,r3,hlt2,World.cell?_alloc_past]) rfl ⟨by rw [HV.out],by repeat (first | exact HB2.out | refine Below.setCell ?_ (by simp;try omega) _ | refine Below.alloc ?_ (by simp;try omega) _)⟩
end Go.Proofs.YtopmdeefcjdadaaGreat
