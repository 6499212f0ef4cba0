import Derived.Test.YtopmdeefcjdadaaGreatT42M00
import Derived.Test.YtopmdeefcjdadaaGreatT42M04
import Derived.Test.YtopmdeefcjdadaaGreatT42M01
import Derived.Maps.OwnOps
import Derived.Maps.OwnSet
import Derived.Maps.Own
import Derived.Maps.Views
import Derived.Below
import Derived.Test.YtopmdeefcjdadaaGreatT42M02
import Derived.Maps.Keyed
import Derived.StringKeys
set_option linter.unusedVariables false
set_option linter.unusedSimpArgs false
set_option maxRecDepth 100000
set_option maxHeartbeats 32000000
namespace Go.Proofs.YtopmdeefcjdadaaGreat
open Go.RowKit
def uj.nm (r:uj):List UInt8:=r.name.data.toList
def jy.nm (r:jy):List UInt8:=r.name.data.toList
def Prf.nm (r:Prf):List UInt8:=r.name.data.toList
def gX.nm (r:gX):List UInt8:=r.zQ.data.toList
def uG (r:uj):Bool:=!bW r.low 0 65535||!bW r.aD 0 65535||decide (r.aD<r.low)
def ni (pre:List uj) (r:uj):Bool:=pre.getLast?.any (fun q=>decide (r.low≤q.aD))
def qZ (pre:List uj) (r:uj):Int:=
 if uG r then 1 else if ni pre r then 7 else if !eU r.nm then 5 else if r.nm∈pre.map uj.nm then 6 else 0
def gM (l:List uj):Int:=if 30<l.length then 2 else bQ qZ l 0
def iE (p:jy):List Int:=if 0<p.fine then [p.sl,p.fine] else [p.sl]
def iy (pre:List jy):List Int:=pre.flatMap iE
def mg (size:Int) (x:jy):Bool:=!bW x.sl 1 size||!bW x.fine 0 size||!bW x.dflt 0 65535
def kH (pre:List jy) (x:jy):Bool:=decide (x.sl=x.fine)||decide (x.sl∈iy pre)||(decide (0<x.fine)&&decide (x.fine∈iy pre))
def kG (size:Int) (pre:List jy) (x:jy):Int:=
 if !eU x.nm then 5 else if x.nm∈pre.map jy.nm then 6 else if !bW x.Oh 1 4 then 4 else if mg size x then 1 else if kH pre x then 12 else gM x.pY
def iI (p:Prf):Int:=
 if !eU p.nm then 5 else if !bW p.size 1 512 then 1 else if p.iY.length=0 then 8 else if 40<p.iY.length then 2 else bQ (kG p.size) p.iY 0
def nR (pre:List Prf) (p:Prf):Int:=if iI p≠0 then iI p else if p.nm∈pre.map Prf.nm then 6 else 0
def eY (l:List Prf):Int:=if 60<l.length then 2 else bQ nR l 0
def cZ (lib:List Prf) (n:List UInt8):Option Prf:=lib.find? (fun p=>decide (p.nm=n))
def sizeOf' (lib:List Prf) (u:gX):Int:=((cZ lib u.nm).map Prf.size).getD 0
def lastOf (lib:List Prf) (u:gX):Int:=u.addr+sizeOf' lib u-1
def jR (lib:List Prf) (u x:gX):Bool:=decide (x.univ=u.univ)&&decide (x.addr≤lastOf lib u)&&decide (u.addr≤lastOf lib x)
def jc (u:gX) (size:Int):Bool:=!bW u.univ 1 64||!bW u.addr 1 512||decide (512<u.addr+size-1)
def kD (pre:List gX) (u:gX):Bool:=pre.getLast?.any (fun q=>decide (u.num≤q.num))
def jB (lib:List Prf) (pre:List gX) (u:gX):Int:=
 if !bW u.num 1 9999 then 1 else if kD pre u then 7 else if (cZ lib u.nm).isNone then 5 else if jc u (sizeOf' lib u) then 1 else if pre.any (jR lib u) then 12 else 0
def bR (r:iK):Int:=if eY r.lib≠0 then eY r.lib else if 400<r.aF.length then 2 else bQ (jB r.lib) r.aF 0
def Au (r:uj):Prop:=pK r.low∧pK r.aD∧r.name.size≤maxLen
def uR (p:jy):Prop:=pK p.Oh∧pK p.sl∧pK p.fine∧pK p.dflt∧p.name.size≤maxLen∧∀r∈p.pY,Au r
def sK (p:Prf):Prop:=pK p.size∧p.name.size≤maxLen∧∀x∈p.iY,uR x
def En (u:gX):Prop:=pK u.num∧pK u.univ∧pK u.addr∧u.zQ.size≤maxLen
def uO (r:iK):Prop:=(∀p∈r.lib,sK p)∧∀u∈r.aF,En u
theorem oU {α:Type} (l:List α) (k:Nat) (h:k<l.length) (h0:0<k):(l.take k).getLast?=some (l[k-1]'(by omega)):=by
 rw [List.getLast?_eq_getElem?,List.length_take,Nat.min_eq_left (by omega),List.getElem?_take_of_lt (by omega),List.getElem?_eq_getElem (by omega)]
theorem ji {n lo hi:Int} (h:bW n lo hi=true):lo≤n∧n≤hi:=of_decide_eq_true h
theorem mH {size:Int} {x:jy} (h:mg size x=false):(1≤x.sl∧x.sl≤size)∧(0≤x.fine∧x.fine≤size)∧0≤x.dflt∧x.dflt≤65535:=by
 simp only [mg,Bool.or_eq_false_iff,Bool.not_eq_false'] at h;exact ⟨ji h.1.1,ji h.1.2,ji h.2⟩
theorem sZ {size:Int} {pre:List jy} {x:jy} (h:kG size pre x=0):eU x.nm=true∧x.nm∉pre.map jy.nm∧(1≤x.Oh∧x.Oh≤4)∧mg size x=false∧kH pre x=false∧gM x.pY=0:=by
 unfold kG at h;cases h1:eU x.nm
 ·simp [h1] at h
 by_cases h2:x.nm∈pre.map jy.nm
 ·rw [h1,if_pos h2] at h;simp at h
 cases h3:bW x.Oh 1 4
 ·rw [h1,if_neg h2,h3] at h;simp at h
 cases h4:mg size x
 ·cases h5:kH pre x
  ·rw [h1,if_neg h2,h3,h4,h5] at h;simp at h;exact ⟨rfl,h2,ji h3,rfl,rfl,h⟩
  ·rw [h1,if_neg h2,h3,h4,h5] at h;simp at h
 ·rw [h1,if_neg h2,h3,h4] at h;simp at h
theorem oh {p:Prf} (h:iI p=0):eU p.nm=true∧(1≤p.size∧p.size≤512)∧0<p.iY.length∧p.iY.length≤40∧bQ (kG p.size) p.iY 0=0:=by
 unfold iI at h;cases h1:eU p.nm
 ·simp [h1] at h
 cases h2:bW p.size 1 512
 ·simp [h1,h2] at h
 by_cases h3:p.iY.length=0
 ·rw [h1,h2,if_pos h3] at h;simp at h
 by_cases h4:40<p.iY.length
 ·rw [h1,h2,if_neg h3,if_pos h4] at h;simp at h
 rw [h1,h2,if_neg h3,if_neg h4] at h;simp at h;exact ⟨rfl,ji h2,by omega,by omega,h⟩
theorem Mq {pre:List Prf} {p:Prf} (h:nR pre p=0):iI p=0∧p.nm∉pre.map Prf.nm:=by
 unfold nR at h;by_cases h1:iI p=0
 ·rw [if_neg (by simpa using h1)] at h;by_cases h2:p.nm∈pre.map Prf.nm
  ·rw [if_pos h2] at h;simp at h
  ·exact ⟨h1,h2⟩
 ·rw [if_pos h1] at h;exact absurd h h1
theorem fP {α:Type} (f:List α→α→Int) (l:List α) (h:bQ f l 0=0) (k:Nat) (hk:k<l.length):f (l.take k) l[k]=0:=LG f l (by rw [←EX];exact h) k hk
theorem Gu {l:List Prf} (h:eY l=0):l.length≤60∧bQ nR l 0=0:=by
 unfold eY at h;by_cases h1:60<l.length
 ·rw [if_pos h1] at h;simp at h
 ·rw [if_neg h1] at h;exact ⟨by omega,h⟩
theorem qE {l:List Prf} (h:eY l=0) {p:Prf} (hp:p∈l):iI p=0:=by
 obtain ⟨k,hk,rfl⟩:=List.getElem_of_mem hp;exact (Mq (fP _ _ (Gu h).2 k hk)).1
theorem jk {r:iK} (h:bR r=0):eY r.lib=0∧r.aF.length≤400∧bQ (jB r.lib) r.aF 0=0:=by
 unfold bR at h;by_cases h1:eY r.lib=0
 ·rw [if_neg (by simpa using h1)] at h;by_cases h2:400<r.aF.length
  ·rw [if_pos h2] at h;simp at h
  ·rw [if_neg h2] at h;exact ⟨h1,by omega,h⟩
 ·rw [if_pos h1] at h;exact absurd h h1
theorem lN {lib:List Prf} {n:List UInt8} {p:Prf} (h:cZ lib n=some p):p∈lib∧p.nm=n:=
 by
 unfold cZ at h;exact ⟨List.mem_of_find?_eq_some h,by simpa using List.find?_some h⟩
theorem mQ {lib:List Prf} {pre:List gX} {u:gX} (h:jB lib pre u=0):(1≤u.num∧u.num≤9999)∧kD pre u=false∧(∃p,cZ lib u.nm=some p∧jc u p.size=false)∧pre.any (jR lib u)=false:=by
 unfold jB at h;cases h1:bW u.num 1 9999
 ·simp [h1] at h
 cases h2:kD pre u
 rotate_left
 ·simp [h1,h2] at h
 cases h3:cZ lib u.nm with
 | none=>simp [h1,h2,h3] at h
 | some p=>
  have hs:sizeOf' lib u=p.size:=by simp [sizeOf',h3]
  rw [h1,h2,h3,hs] at h;cases h4:jc u p.size
  ·cases h5:pre.any (jR lib u)
   ·exact ⟨ji h1,rfl,⟨p,rfl,h4⟩,rfl⟩
   ·simp [h4,h5] at h
  ·simp [h4] at h
theorem kE {u:gX} {size:Int} (h:jc u size=false):(1≤u.univ∧u.univ≤64)∧(1≤u.addr∧u.addr≤512)∧u.addr+size-1≤512:=by
 simp only [jc,Bool.or_eq_false_iff,Bool.not_eq_false',decide_eq_false_iff_not] at h;exact ⟨ji h.1.1,ji h.1.2,by omega⟩
end Go.Proofs.YtopmdeefcjdadaaGreat
namespace Go.Proofs.YtopmdeefcjdadaaGreat
open Go.ChangeShapes Go.WideShapes Go.RowKit Go.Deep
section
variable {H:Type} {enc:TypeId×Value→H} {P:Program} {w:World} {held:Bool}
theorem mU {β:Type} [Inhabited β] {SL E:TypeId} {n:Nat} (f:β→List Value) (Good:β→Prop) (hn:∀y,(f y).length=n) (hn0:0<n) (hSL:P.underlying SL=some (.slice E)) (hc:P.cellsOf E=n)
  (elem:∀fuel cs x,DataW.trod enc P w 0 (fun _=>true) held fuel E cs=some x→∃y,cs=f y∧Good y)
  {fuel:Nat} {cs:List Value} {x:DataW H×List MemPlace} (h:DataW.trod enc P w 0 (fun _=>true) held fuel SL cs=some x) :
  ∃(v:Value) (l:List β),cs=[v]∧aW w.heap.size w v l.length (l.flatMap f)∧∀y∈l,Good y:=by
 rcases open_slice hSL h with ⟨rfl,_⟩ | ⟨a,len,cap,m,nn,D,Pl,rfl,_,hl,hm,hmm,_,hx⟩
 ·exact ⟨_,[],rfl,aW.nil _ _,by simp⟩
 ·simp only [if_true] at hmm;subst hmm
  have he:∀i,i<len→∃y:β,(∀j,j<n→w.cell? ((a.add (i*n)).add j)=(f y)[j]?)∧Good y:=by
   intro i hi;obtain ⟨cs',h1,h2⟩:=hx i (by omega);rw [hc] at h1;obtain ⟨_,hcl,hat⟩:=World.cells?_some h1;obtain ⟨y,rfl,hy⟩:=elem _ _ _ h2;exact ⟨y,hat,hy⟩
  obtain ⟨Y,hY⟩:=choose_lt he;refine ⟨_,(List.range len).map Y,rfl,⟨some a,m,by simp,by simpa using hl,hm,fun hpos=>?_⟩,?_⟩
  ·have h0:0<len:=by simpa using hpos
   have hc0:∃u,w.cell? ((a.add (0*n)).add 0)=some u:=by
    rw [(hY 0 h0).1 0 hn0];exact ⟨_,List.getElem?_eq_getElem (by rw [hn];exact hn0)⟩
   obtain ⟨u0,hu0⟩:=hc0
   have hsp:a.spot=none:=by
    have:=World.cell?_spot hu0;simpa [Addr.add] using this
   obtain ⟨b,off,spot⟩:=a;simp only at hsp;subst hsp;refine ⟨b,off,rfl,?_,fun j u hu=>?_⟩
   ·have:=World.block_lt_of_cell? w _ hu0;simpa [Addr.add] using this
   ·have hj:j<(((List.range len).map Y).flatMap f).length:=(List.getElem?_eq_some_iff.1 hu).1;rw [vK f n hn] at hj;simp only [List.length_map,List.length_range] at hj;have hi:j / n<len:=Nat.div_lt_of_lt_mul (by rw [Nat.mul_comm];exact hj);have hr:j % n<n:=Nat.mod_lt _ hn0;have hjj:j=j / n*n+j % n:=by rw [Nat.mul_comm];exact (Nat.div_add_mod j n).symm
    rw [hjj,flat_get f n hn ((List.range len).map Y) (j / n) (by simpa using hi) (j % n) hr] at hu;have h1:=(hY (j / n) hi).1 (j % n) hr;rw [iQ,iQ] at h1;simp only [List.getElem_map,List.getElem_range] at hu;rw [hu] at h1;rw [hjj];rw [Nat.add_assoc] at h1;exact h1
  ·intro y hy;simp at hy;obtain ⟨i,hi,rfl⟩:=hy;exact (hY i hi).2
theorem list7 {α:Type} {l:List α} (h:l.length=7):∃a b c d e f g,l=[a,b,c,d,e,f,g]:=by
 match l,h with
 | [a,b,c,d,e,f,g],_=>exact ⟨a,b,c,d,e,f,g,rfl⟩
theorem list4 {α:Type} {l:List α} (h:l.length=4):∃a b c d,l=[a,b,c,d]:=by
 match l,h with
 | [a,b,c,d],_=>exact ⟨a,b,c,d,rfl⟩
theorem list3' {α:Type} {l:List α} (h:l.length=3):∃a b c,l=[a,b,c]:=by
 match l,h with
 | [a,b,c],_=>exact ⟨a,b,c,rfl⟩
theorem kL {fuel:Nat} {t:TypeId} {u:Value} {y:DataW H×List MemPlace} (ht:P.underlying t=some .string) (h:DataW.trod enc P w 0 (fun _=>true) held fuel t [u]=some y):∃s:ByteArray,u=.string s∧s.size≤maxLen:=by
 obtain ⟨a2,e2,_,w2⟩:=DataW.trod_string ht h;simp at e2;exact ⟨a2,e2,w2⟩
theorem Js {fuel:Nat} {t:TypeId} {u:Value} {y:DataW H×List MemPlace} (ht:P.underlying t=some .bool) (h:DataW.trod enc P w 0 (fun _=>true) held fuel t [u]=some y):∃s:Bool,u=.bool s:=by
 obtain ⟨a2,e2,_⟩:=DataW.trod_bool ht h;simp at e2;exact ⟨a2,e2⟩
end
instance:Inhabited uj:=⟨⟨0,0,ByteArray.empty⟩⟩
instance:Inhabited jy:=⟨⟨ByteArray.empty,0,0,0,0,false,[]⟩⟩
instance:Inhabited Prf:=⟨⟨ByteArray.empty,0,[]⟩⟩
instance:Inhabited gX:=⟨⟨0,ByteArray.empty,0,0⟩⟩
section
variable {H:Type} {enc:TypeId×Value→H} {w:World} {held:Bool}
theorem Iw {fuel:Nat} {cs:List Value} {x:DataW H×List MemPlace} (h:DataW.trod enc Tryz.prog w 0 (fun _=>true) held fuel 161 cs=some x) :
  ∃y:uj,cs=rngC y∧Au y:=by
 have hc:Tryz.prog.cellsOf 161=3:=by kernel_rfl
 obtain ⟨hl,n,hf⟩:=fI Tryz.underlying161 (by kernel_rfl) hc h;obtain ⟨u0,u1,u2,rfl⟩:=list3' hl;obtain ⟨x0,y0,q0,k0⟩:=hf 0 _ rfl;obtain ⟨x1,y1,q1,k1⟩:=hf 1 _ rfl;obtain ⟨x2,y2,q2,k2⟩:=hf 2 _ rfl;simp at q0 q1 q2;subst q0 q1 q2;obtain ⟨a0,rfl,w0⟩:=bU Tryz.underlying3 k0;obtain ⟨a1,rfl,w1⟩:=bU Tryz.underlying3 k1;obtain ⟨a2,rfl,w2⟩:=kL Tryz.underlying9 k2;exact ⟨⟨a0,a1,a2⟩,rfl,bT w0,bT w1,w2⟩
theorem Iy {fuel:Nat} {cs:List Value} {x:DataW H×List MemPlace} (h:DataW.trod enc Tryz.prog w 0 (fun _=>true) held fuel 81 cs=some x) :
  ∃y:jy×Value,cs=parC y∧nL w.heap.size w y.2 y.1.pY∧uR y.1:=by
 have hc:Tryz.prog.cellsOf 81=7:=by kernel_rfl
 obtain ⟨hl,n,hf⟩:=fI Tryz.underlying81 (by kernel_rfl) hc h;obtain ⟨u0,u1,u2,u3,u4,u5,u6,rfl⟩:=list7 hl;obtain ⟨x0,y0,q0,k0⟩:=hf 0 _ rfl;obtain ⟨x1,y1,q1,k1⟩:=hf 1 _ rfl;obtain ⟨x2,y2,q2,k2⟩:=hf 2 _ rfl;obtain ⟨x3,y3,q3,k3⟩:=hf 3 _ rfl;obtain ⟨x4,y4,q4,k4⟩:=hf 4 _ rfl;obtain ⟨x5,y5,q5,k5⟩:=hf 5 _ rfl;obtain ⟨x6,y6,q6,k6⟩:=hf 6 _ rfl;simp at q0 q1 q2 q3 q4 q5 q6;subst q0 q1 q2 q3 q4 q5 q6;obtain ⟨a0,rfl,w0⟩:=kL Tryz.underlying9 k0;obtain ⟨a1,rfl,w1⟩:=bU Tryz.underlying3 k1;obtain ⟨a2,rfl,w2⟩:=bU Tryz.underlying3 k2;obtain ⟨a3,rfl,w3⟩:=bU Tryz.underlying3 k3;obtain ⟨a4,rfl,w4⟩:=bU Tryz.underlying3 k4;obtain ⟨a5,rfl⟩:=Js Tryz.underlying4 k5;obtain ⟨v,l,e,h1,h2⟩:=mU (n:=3) rngC Au (fun _=>rfl) (by omega) Tryz.underlying79 (by kernel_rfl) (fun _ _ _ h=>Iw h) k6;simp at e;subst e;exact ⟨(⟨a0,a1,a2,a3,a4,a5,l⟩,_),rfl,h1,bT w1,bT w2,bT w3,bT w4,w0,h2⟩
theorem Fb {fuel:Nat} {cs:List Value} {x:DataW H×List MemPlace} (h:DataW.trod enc Tryz.prog w 0 (fun _=>true) held fuel 69 cs=some x) :
  ∃v l,cs=[v]∧jI w.heap.size w v l∧∀y∈l,uR y:=by
 obtain ⟨v,l,e,h1,h2⟩:=mU (n:=7) parC (fun y=>nL w.heap.size w y.2 y.1.pY∧uR y.1) (fun _=>rfl) (by omega) Tryz.underlying69 (by kernel_rfl) (fun _ _ _ h=>Iy h) h;refine ⟨v,l.map (·.1),e,⟨l,rfl,h1,fun y hy=>(h2 y hy).1⟩,fun y hy=>?_⟩;obtain ⟨z,hz,rfl⟩:=List.mem_map.1 hy;exact (h2 z hz).2
theorem Dw {fuel:Nat} {cs:List Value} {x:DataW H×List MemPlace} (h:DataW.trod enc Tryz.prog w 0 (fun _=>true) held fuel 71 cs=some x) :
  ∃y:Prf×Value,cs=prfC y∧jI w.heap.size w y.2 y.1.iY∧sK y.1:=by
 have hc:Tryz.prog.cellsOf 71=3:=by kernel_rfl
 obtain ⟨hl,n,hf⟩:=fI Tryz.underlying71 (by kernel_rfl) hc h;obtain ⟨u0,u1,u2,rfl⟩:=list3' hl;obtain ⟨x0,y0,q0,k0⟩:=hf 0 _ rfl;obtain ⟨x1,y1,q1,k1⟩:=hf 1 _ rfl;obtain ⟨x2,y2,q2,k2⟩:=hf 2 _ rfl;simp at q0 q1 q2;subst q0 q1 q2;obtain ⟨a0,rfl,w0⟩:=kL Tryz.underlying9 k0;obtain ⟨a1,rfl,w1⟩:=bU Tryz.underlying3 k1;obtain ⟨v,l,e,h1,h2⟩:=Fb k2;simp at e;subst e;exact ⟨(⟨a0,a1,l⟩,_),rfl,h1,bT w1,w0,h2⟩
theorem AZ {fuel:Nat} {cs:List Value} {x:DataW H×List MemPlace} (h:DataW.trod enc Tryz.prog w 0 (fun _=>true) held fuel 22 cs=some x) :
  ∃v l,cs=[v]∧jD w.heap.size w v l∧∀y∈l,sK y:=by
 obtain ⟨v,l,e,h1,h2⟩:=mU (n:=3) prfC (fun y=>jI w.heap.size w y.2 y.1.iY∧sK y.1) (fun _=>rfl) (by omega) Tryz.underlying22 (by kernel_rfl) (fun _ _ _ h=>Dw h) h;refine ⟨v,l.map (·.1),e,⟨l,rfl,h1,fun y hy=>(h2 y hy).1⟩,fun y hy=>?_⟩;obtain ⟨z,hz,rfl⟩:=List.mem_map.1 hy;exact (h2 z hz).2
theorem Me {fuel:Nat} {cs:List Value} {x:DataW H×List MemPlace} (h:DataW.trod enc Tryz.prog w 0 (fun _=>true) held fuel 67 cs=some x) :
  ∃y:gX,cs=untC y∧En y:=by
 have hc:Tryz.prog.cellsOf 67=4:=by kernel_rfl
 obtain ⟨hl,n,hf⟩:=fI Tryz.underlying67 (by kernel_rfl) hc h;obtain ⟨u0,u1,u2,u3,rfl⟩:=list4 hl;obtain ⟨x0,y0,q0,k0⟩:=hf 0 _ rfl;obtain ⟨x1,y1,q1,k1⟩:=hf 1 _ rfl;obtain ⟨x2,y2,q2,k2⟩:=hf 2 _ rfl;obtain ⟨x3,y3,q3,k3⟩:=hf 3 _ rfl;simp at q0 q1 q2 q3;subst q0 q1 q2 q3;obtain ⟨a0,rfl,w0⟩:=bU Tryz.underlying3 k0;obtain ⟨a1,rfl,w1⟩:=kL Tryz.underlying9 k1;obtain ⟨a2,rfl,w2⟩:=bU Tryz.underlying3 k2;obtain ⟨a3,rfl,w3⟩:=bU Tryz.underlying3 k3;exact ⟨⟨a0,a1,a2,a3⟩,rfl,bT w0,bT w2,bT w3,w1⟩
theorem Iq {fuel:Nat} {cs:List Value} {x:DataW H×List MemPlace} (h:DataW.trod enc Tryz.prog w 0 (fun _=>true) held fuel 23 cs=some x) :
  ∃v l,cs=[v]∧qH w.heap.size w v l∧∀y∈l,En y:=mU (n:=4) untC En (fun _=>rfl) (by omega) Tryz.underlying23 (by kernel_rfl) (fun _ _ _ h=>Me h) h
def mG (lv uv:Value):Value:=.agg #[lv,uv]
structure kV (B:Nat) (w:World) (x:iK) (lv uv:Value):Prop where
 lib:jD B w lv x.lib
 aF:qH B w uv x.aF
theorem kV.below {B:Nat} {w w':World} {x:iK} {lv uv:Value} (h:kV B w x lv uv) (hb:Below B w w'):kV B w' x lv uv:=⟨h.lib.below hb,h.aF.below hb⟩
theorem kV.more {B B':Nat} {w:World} {x:iK} {lv uv:Value} (h:kV B w x lv uv) (hB:B≤B'):kV B' w x lv uv:=⟨h.lib.more hB,h.aF.more hB⟩
def RigW (w:World) (v:Value):Prop:=∃(x:iK) (lv uv:Value),v=mG lv uv∧kV w.heap.size w x lv uv∧uO x
theorem open_rig {r:Reach} {b0:Nat} {v:Value} {d:DataW H} {p:List MemPlace} (hv:Value.okWide Tryz.prog w r b0 25 v) (h:DataW.Trod enc Tryz.prog w 0 (fun _=>true) held 25 v d p) :
  ∃a:Value,v=a∧RigW w a:=by
 obtain ⟨cs,n,rfl,hl,hf⟩:=DR Tryz.underlying25 (by kernel_rfl) (by kernel_rfl) hv h;obtain ⟨u0,u1,rfl⟩:=Kt hl;obtain ⟨x0,y0,q0,k0⟩:=hf 0 _ rfl;obtain ⟨x1,y1,q1,k1⟩:=hf 1 _ rfl;simp at q0 q1;subst q0 q1;obtain ⟨v0,l0,e0,h0,f0⟩:=AZ k0;simp at e0;subst e0;obtain ⟨v1,l1,e1,h1,f1⟩:=Iq k1;simp at e1;subst e1;exact ⟨_,rfl,⟨l0,l1⟩,_,_,rfl,⟨h0,h1⟩,f0,f1⟩
end
end Go.Proofs.YtopmdeefcjdadaaGreat
namespace Go.Proofs.YtopmdeefcjdadaaGreat
open Go.Maps (Keyed IsMap atKey_put_same atKey_put_other)
open Go.ChangeShapes Go.WideShapes Go.RowKit
def EW (v:Value):Option (DataW Value×List MemPlace):=some (.held v,[])
structure jJ (w:World) (P:Program) (k:TypeId) (b n:Nat) (f:Lit→Option Value):Prop where
 own:∃D:DataW Value,w.ownsMap P k EW b n D∧IsMap D∧∀kl,(f kl=none→∀z,D.atKey kl z=z)∧(∀v,f kl=some v→∀z,D.atKey kl z=.held v)
def Mj (f:Lit→Option Value) (kl:Lit) (v:Value):Lit→Option Value:=fun x=>if x.sameKey kl then some v else f x
theorem mV {f:Lit→Option Value} {kl:Lit} {v:Value} (hk:WideAt.IsKeyLit kl):Mj f kl v kl=some v:=by unfold Mj;rw [WideAt.sameKey_self hk];rfl
theorem jP {f:Lit→Option Value} {kl x:Lit} {v:Value} (h:x≠kl):Mj f kl v x=f x:=by unfold Mj;rw [Maps.sameKey_ne h];rfl
section
variable {w:World} {P:Program} {k:TypeId} {b n:Nat} {f:Lit→Option Value}
theorem Cj (w:World) (P:Program) (k:TypeId):jJ (w.alloc (.map #[] 0)) P k w.heap.size 0 (fun _=>none):=
 ⟨.map [],World.ownsMap_made w P k _,⟨_,rfl⟩,fun kl=>⟨fun _ z=>WideAt.atKey_none _ (by simp),fun v h=>by cases h⟩⟩
theorem jJ.kept {w':World} {row:Option Nat} (h:jJ w P k b n f) (hg:w.grownBy w' row) (hne:some b≠row):jJ w' P k b n f:=by
 obtain ⟨D,h1,h2,h3⟩:=h.own;exact ⟨D,h1.kept hg hne,h2,h3⟩
theorem jJ.below {B:Nat} {w':World} (h:jJ w P k b n f) (hb:Below B w w') (hlt:b<B):jJ w' P k b n f:=by
 obtain ⟨D,⟨es,clock,h1,h2,h3,h4⟩,h5,h6⟩:=h.own;exact ⟨D,⟨es,clock,(hb.block _ hlt).trans h1,h2,h3,h4⟩,h5,h6⟩
theorem jJ.same {w':World} (h:jJ w P k b n f) (hb:w'.heap[b]?=w.heap[b]?):jJ w' P k b n f:=by
 obtain ⟨D,⟨es,clock,h1,h2,h3,h4⟩,h5,h6⟩:=h.own;exact ⟨D,⟨es,clock,hb.trans h1,h2,h3,h4⟩,h5,h6⟩
theorem jJ.lt (h:jJ w P k b n f):b<w.heap.size:=by
 obtain ⟨D,h1,_⟩:=h.own;exact h1.lt
theorem jJ.mono (h:jJ w P k b n f) {n':Nat} (hn:n≤n'):jJ w P k b n' f:=by
 obtain ⟨D,h1,h2⟩:=h.own;exact ⟨D,h1.mono hn,h2⟩
theorem jJ.cast (h:jJ w P k b n f) {g:Lit→Option Value} (hg:∀kl,g kl=f kl):jJ w P k b n g:=by
 obtain rfl:g=f:=funext hg;exact h
theorem jJ.look {t e:TypeId} (h:jJ w P k b n f) (c:Bool) (K:Keyed P k) (ht:P.underlying t=some (.map k e)) {z:Value} (hz:(zeroValue e).run P w=.ok z w) {key:Value} {kl:Lit} (hkey:keyOf P k key=some kl) :
  (Instr.lookup t (.map (some b)) key c).run P w=.ok (if c then .tuple #[(f kl).getD z,.bool (f kl).isSome] else (f kl).getD z) w:=by
 obtain ⟨D,⟨es,clock,hb,F,_,rfl⟩,h2,h3⟩:=h.own;obtain ⟨h4,h5⟩:=h3 kl;rcases Maps.fit_look c K ht hz hb F hkey with ⟨hrun,_,hat⟩ | ⟨e0,y,_,_,hrun,hRv,hat,_⟩
 ·rw [hrun]
  cases hf:f kl with
  | none=>simp
  | some v=>
   have:=(hat .nil).symm.trans (h5 v hf .nil);cases this
 ·rw [hrun];unfold EW at hRv;simp only [Option.some.injEq] at hRv;subst hRv
  cases hf:f kl with
  | none=>
   have:=(hat .nil).symm.trans (h4 hf .nil);cases this
  | some v=>
   have:=(hat .nil).symm.trans (h5 v hf .nil);simp only [DataW.held.injEq] at this;rw [this];simp
theorem jJ.update {t e:TypeId} (h:jJ w P k b n f) (K:Keyed P k) (ht:P.underlying t=some (.map k e)) (hn:n<maxLen) {key val:Value} {kl:Lit} (hkey:keyOf P k key=some kl) :
  ∃w',(Instr.mapUpdate t (.map (some b)) key val).run P w=.ok () w'∧jJ w' P k b (n+1) (Mj f kl val)∧w.grownBy w' (some b):=by
 obtain ⟨D,h1,h2,h3⟩:=h.own;obtain ⟨w',hrun,r1,r2⟩:=h1.update K ht hn hkey (val:=val) (d:=.held val) (ps:=[]) rfl;refine ⟨w',hrun,⟨_,r1,h2.put _ _,fun kl'=>?_⟩,r2⟩;by_cases c:kl'=kl
 ·subst c;rw [mV (K.key hkey)];refine ⟨by simp,fun v hv z=>?_⟩;obtain rfl:=Option.some.inj hv;exact atKey_put_same h2 (K.key hkey) _ _
 ·rw [jP c];exact ⟨fun h z=>(atKey_put_other c _ _).trans ((h3 kl').1 h z),fun v hv z=>(atKey_put_other c _ _).trans ((h3 kl').2 v hv z)⟩
end
section
variable {P:Program} (w:World) {ops:Array Oper} {rest:List Oper} {o:Oper} {a:Act} {Q:Exit→Act→World→Prop}
end
end Go.Proofs.YtopmdeefcjdadaaGreat
namespace Go.Proofs.YtopmdeefcjdadaaGreat
open Go.RowKit
theorem dY (n:Int) (w:World):Calls Tryz.prog 93 #[.int .i64 n] w fun e w'=>e=.returned (.bool (bW n 0 65535))∧w=w':=by
 go_enter Tryz.func93,Tryz.ntmps93;go_wp2_with (go_at_call 31;refine (aV _ _ _ _).mono ?_;rintro e w' ⟨rfl,rfl⟩);go_ret;exact ⟨rfl,rfl⟩
theorem oq (w:World):(zeroValue 4).run Tryz.prog w=.ok (.bool false) w:=by kernel_rfl
theorem ug:Maps.Keyed Tryz.prog 9:=Maps.string_keyed Tryz.underlying9
theorem nY:Maps.Keyed Tryz.prog 3:=Maps.int_keyed Tryz.underlying3
theorem DY {s:ByteArray} (h:s.size≤maxLen):keyOf Tryz.prog 9 (.string s)=some (.string s.data.toList):=WideMaps.keyOf_string_mk Tryz.underlying9 h
theorem i64wf_ {a:Int} (h:pK a):(Lit.int .i64 a).wf=true:=by
 unfold pK at h;simp [Lit.wf,IntKind.min,IntKind.max,IntKind.signed,IntKind.bits];omega
theorem mJ {a:Int} (h:pK a):keyOf Tryz.prog 3 (.int .i64 a)=some (.int .i64 a):=Maps.keyOf_int_mk Tryz.underlying3 (i64wf_ h)
theorem zY {α:Type} (f:α→List UInt8) (l:List α) (x:List UInt8):Lit.string x∈l.map (fun y=>Lit.string (f y))↔x∈l.map f:=by
 rw [List.mem_map,List.mem_map];constructor
 ·rintro ⟨y,h1,h2⟩;injection h2 with h2;exact ⟨y,h1,h2⟩
 ·rintro ⟨y,h1,h2⟩;exact ⟨y,h1,by rw [h2]⟩
theorem F3 (l:List Int) (x:Int):Lit.int .i64 x∈l.map (Lit.int .i64)↔x∈l:=by
 rw [List.mem_map];constructor
 ·rintro ⟨y,h1,h2⟩;injection h2 with _ h2;subst h2;exact h1
 ·intro h;exact ⟨x,h,rfl⟩
theorem wL {α:Type} (f:α→List UInt8) (l:List α) (k:Nat) (h:k<l.length):(l.take (k+1)).map (fun y=>Lit.string (f y))=(l.take k).map (fun y=>Lit.string (f y))++[Lit.string (f l[k])]:=by
 rw [List.take_succ_eq_append_getElem h,List.map_append];rfl
end Go.Proofs.YtopmdeefcjdadaaGreat
namespace Go.Proofs.YtopmdeefcjdadaaGreat
open Go.RowKit
open Go.Maps (Keyed)
section
variable {w:World} {P:Program} {k e:TypeId} {b n:Nat} {S:List Lit}
theorem dH.mono (h:dH w P k e b n S) {m:Nat} (hm:n≤m):dH w P k e b m S:=by
 obtain ⟨D,h1,h2⟩:=h.own;exact ⟨D,h1.mono hm,h2⟩
theorem dH.drew (h:dH w P k e b n S):dH w.drew P k e b n S:=by
 obtain ⟨D,h1,h2⟩:=h.own;exact ⟨D,h1.drew,h2⟩
theorem dH.look (h:dH w P k e b n S) (K:Keyed P k) {t:TypeId} (ht:P.underlying t=some (.map k e)) (he:P.underlying e=some .bool) (hz:(zeroValue e).run P w=.ok (.bool false) w) {key:Value} {kl:Lit} (hkey:keyOf P k key=some kl) (c:Bool) (hc:c=true↔kl∈S) :
  (Instr.lookup t (.map (some b)) key false).run P w=.ok (.bool c) w:=by
 obtain ⟨D,h1,h2,h3⟩:=h.own;obtain ⟨v,ps,hrun,hv⟩:=h1.lookup K ht hz (plainElem_bool he false) hkey;obtain ⟨x',rfl,hx'⟩:=ny he hv;obtain ⟨c',h4,h5⟩:=h3 kl;rw [h4] at hx';simp at hx';obtain ⟨hxe,rfl⟩:=hx';subst hxe;rw [hrun]
 have:c=c':=by
  cases c<;>cases c'<;>simp_all
 rw [this]
theorem dH.yO (h:dH w P k e b n S) (K:Keyed P k) {t:TypeId} (ht:P.underlying t=some (.map k e)) (he:P.underlying e=some .bool) (hz:(zeroValue e).run P w=.ok (.bool false) w) {key:Value} {kl:Lit} (hkey:keyOf P k key=some kl) (hc:kl∈S) :
  (Instr.lookup t (.map (some b)) key false).run P w=.ok (.bool true) w:=h.look K ht he hz hkey true (by simp [hc])
theorem dH.vC (h:dH w P k e b n S) (K:Keyed P k) {t:TypeId} (ht:P.underlying t=some (.map k e)) (he:P.underlying e=some .bool) (hz:(zeroValue e).run P w=.ok (.bool false) w) {key:Value} {kl:Lit} (hkey:keyOf P k key=some kl) (hc:kl∉S) :
  (Instr.lookup t (.map (some b)) key false).run P w=.ok (.bool false) w:=h.look K ht he hz hkey false (by simp [hc])
theorem dH.update (h:dH w P k e b n S) (K:Keyed P k) {t:TypeId} (ht:P.underlying t=some (.map k e)) (he:P.underlying e=some .bool) (hn:n<maxLen) {key:Value} {kl:Lit} (hkey:keyOf P k key=some kl) :
  ∃w',(Instr.mapUpdate t (.map (some b)) key (.bool true)).run P w=.ok () w'∧dH w' P k e b (n+1) (S++[kl])∧w.grownBy w' (some b):=by
 obtain ⟨D,h1,h2,h3⟩:=h.own;obtain ⟨w',hrun,r1,r2⟩:=h1.update K ht hn hkey (plainElem_bool he true);exact ⟨w',hrun,dH.put h2 h3 (K.key hkey) r1,r2⟩
end
theorem eF {w w':World} {row b off:Nat} (h:w.grownBy w' (some row)) (hb:b<w.heap.size) (hne:b≠row):w'.cell? ⟨b,off,none⟩=w.cell? ⟨b,off,none⟩:=
 World.cell?_of_block (h.block b hb (by intro e;injection e with e;exact hne e))
end Go.Proofs.YtopmdeefcjdadaaGreat
namespace Go.Proofs.YtopmdeefcjdadaaGreat
open Go.RowKit
def fK (w:World) (g:Nat) (m:Int→Bool):Prop:=∀j:Nat,j≤512→w.cell? ⟨g,j,none⟩=some (.bool (m j))∧w.frozen? ⟨g,j,none⟩=false
theorem fK.same {w w':World} {g:Nat} {m:Int→Bool} (h:fK w g m) (hb:w'.heap[g]?=w.heap[g]?):fK w' g m:=fun j hj=>
 ⟨(World.cell?_of_block (a:=⟨g,j,none⟩) hb).trans (h j hj).1,(World.frozen?_of_block (a:=⟨g,j,none⟩) hb).trans (h j hj).2⟩
theorem fK.cast {w:World} {g:Nat} {m m':Int→Bool} (h:fK w g m) (hm:∀j,m' j=m j):fK w g m':=fun j hj=>by
 rw [hm];exact h j hj
def lU (m:Int→Bool):Int→Nat→Bool
 | _,0=>true
 | a,n+1=>decide (a≤512)&&(!m a&&lU m (a+1) n)
theorem Nh (m:Int→Bool) (n:Nat):∀a:Int,lU m a n=true↔∀k:Int,a≤k→k<a+n→k≤512∧m k=false:=by
 induction n with
 | zero=>intro a;simp only [lU,true_iff];intro k h1 h2;omega
 | succ n ih=>
  intro a;simp only [lU,Bool.and_eq_true,decide_eq_true_eq,Bool.not_eq_true',ih (a+1)];constructor
  ·rintro ⟨h1,h2,h3⟩ k h4 h5;by_cases c:k=a
   ·subst c;exact ⟨h1,h2⟩
   ·exact h3 k (by omega) (by omega)
  ·intro h;have h1:=h a (by omega) (by omega);exact ⟨h1.1,h1.2,fun k h4 h5=>h k (by omega) (by omega)⟩
def jU (us:List (gX×Int)) (U k:Int):Bool:=us.any (fun x=>decide (x.1.univ=U)&&(decide (x.1.addr≤k)&&decide (k<x.1.addr+x.2)))
theorem xX (us:List (gX×Int)) (u:gX) (s U k:Int) (h:u.univ≠U):jU (us++[(u,s)]) U k=jU us U k:=by
 simp [jU,h]
theorem yY (us:List (gX×Int)) (u:gX) (s k:Int):jU (us++[(u,s)]) u.univ k=(jU us u.univ k||(decide (u.addr≤k)&&decide (k<u.addr+s))):=by
 simp [jU]
theorem Ib (us:List (gX×Int)) (U k:Int) (h:∀x∈us,x.1.univ≠U):jU us U k=false:=by
 unfold jU;rw [List.any_eq_false];intro x hx;simp [h x hx]
def qm (g:Nat):Value:=.pointer (some ⟨g,0,none⟩)
def GJ (base:Nat) (w:World) (mb:Nat) (us:List (gX×Int)) (f:Lit→Option Value) (U:Int):Prop:=
 (f (.int .i64 U)=none∧∀x∈us,x.1.univ≠U)∨∃g,f (.int .i64 U)=some (qm g)∧base≤g∧g≠mb∧g<w.heap.size∧fK w g (jU us U)
def gN (base:Nat) (w:World) (mb:Nat) (us:List (gX×Int)):Prop:=
 ∃n f,n≤us.length∧jJ w Tryz.prog 3 mb n f∧(∀U,GJ base w mb us f U)∧∀U V g,f (.int .i64 U)=some (qm g)→f (.int .i64 V)=some (qm g)→U=V
theorem zP {g h:Nat} (e:qm g=qm h):g=h:=by unfold qm at e;simpa using e
theorem vH (U:Int):WideAt.IsKeyLit (.int .i64 U):=trivial
theorem vD {U V:Int} (h:U≠V):Lit.int .i64 U≠Lit.int .i64 V:=fun e=>h (by injection e)
theorem K9 (base:Nat) (w:World):gN base (w.alloc (.map #[] 0)) w.heap.size []:=
 ⟨0,fun _=>none,by simp,Cj w _ _,fun U=>.inl ⟨rfl,by simp⟩,fun U V g h=>by cases h⟩
theorem gN.keep {base mb:Nat} {w w':World} {us:List (gX×Int)} (h:gN base w mb us) (hs:w.heap.size≤w'.heap.size) (hb:∀b,(b=mb∨base≤b)→b<w.heap.size→w'.heap[b]?=w.heap[b]?):gN base w' mb us:=by
 obtain ⟨n,f,h1,h2,h3,h4⟩:=h;refine ⟨n,f,h1,h2.same (hb _ (.inl rfl) h2.lt),fun U=>?_,h4⟩;rcases h3 U with h | ⟨g,e1,e2,e3,e4,e5⟩
 ·exact .inl h
 ·exact .inr ⟨g,e1,e2,e3,by omega,e5.same (hb g (.inr e2) e4)⟩
theorem gN.below {base mb:Nat} {w w':World} {us:List (gX×Int)} (h:gN base w mb us) (hb:Below w.heap.size w w'):gN base w' mb us:=h.keep hb.size (fun b _ hl=>hb.block b hl)
theorem gN.alloc {base mb:Nat} {w:World} {us:List (gX×Int)} (h:gN base w mb us) (o:Obj):gN base (w.alloc o) mb us:=h.below ((Below.refl _ _).alloc (Nat.le_refl _) o)
theorem gN.drewN {base mb:Nat} {w:World} {us:List (gX×Int)} (h:gN base w mb us) (n:Nat):gN base (w.drewN n) mb us:=h.keep (Nat.le_refl _) (fun _ _ _=>rfl)
theorem gN.lt {base mb:Nat} {w:World} {us:List (gX×Int)} (h:gN base w mb us):mb<w.heap.size:=by
 obtain ⟨n,f,h1,h2,_⟩:=h;exact h2.lt
def nC (m:Int→Bool) (a k:Int):Int→Bool:=fun j=>m j||(decide (a≤j)&&decide (j<k))
theorem yw (m:Int→Bool) (a j:Int):nC m a a j=m j:=by
 unfold nC;by_cases h1:a≤j
 ·have:¬j<a:=by omega
  simp [h1,this]
 ·simp [h1]
theorem gN.PW {base mb g:Nat} {w w':World} {us:List (gX×Int)} {u:gX} {s:Int} {n:Nat} {f:Lit→Option Value} (hn:n≤us.length) (hM:jJ w Tryz.prog 3 mb n f) (hU:∀U,GJ base w mb us f U)
  (hI:∀U V g,f (.int .i64 U)=some (qm g)→f (.int .i64 V)=some (qm g)→U=V) (hf:f (.int .i64 u.univ)=some (qm g)) (hsz:w.heap.size≤w'.heap.size) (hg:g≠mb) (hbg:base≤g) (hgl:g<w'.heap.size) (hb:∀b,b≠g→b<w.heap.size→w'.heap[b]?=w.heap[b]?)
  (hS:fK w' g (nC (jU us u.univ) u.addr (u.addr+s))):gN base w' mb (us++[(u,s)]):=by
 refine ⟨n,f,by simp;omega,hM.same (hb mb (Ne.symm hg) hM.lt),fun U=>?_,hI⟩;by_cases c:U=u.univ
 ·subst c;exact .inr ⟨g,hf,hbg,hg,hgl,hS.cast (fun j=>yY us u s j)⟩
 ·rcases hU U with ⟨h1,h2⟩ | ⟨g',e1,e2,e3,e4,e5⟩
  ·refine .inl ⟨h1,fun x hx=>?_⟩;simp only [List.mem_append,List.mem_singleton] at hx;rcases hx with hx | rfl
   ·exact h2 x hx
   ·exact fun e=>c e.symm
  ·have hgg:g'≠g:=fun e=>c (hI U u.univ g (by rw [e1,e]) hf);exact .inr ⟨g',e1,e2,e3,by omega,(e5.same (hb g' hgg e4)).cast (fun j=>xX us u s U j (fun e=>c e.symm))⟩
theorem gN.PX {base mb g:Nat} {w w':World} {us:List (gX×Int)} {u:gX} {s:Int} {n:Nat} {f:Lit→Option Value} (hn:n≤us.length) (hU:∀U,GJ base w mb us f U)
  (hI:∀U V g,f (.int .i64 U)=some (qm g)→f (.int .i64 V)=some (qm g)→U=V) (hf:f (.int .i64 u.univ)=none) (hsz:w.heap.size≤w'.heap.size) (hg:g≠mb) (hbg:base≤g) (hnew:w.heap.size≤g) (hgl:g<w'.heap.size) (hb:∀b,b≠mb→b<w.heap.size→w'.heap[b]?=w.heap[b]?)
  (hM:jJ w' Tryz.prog 3 mb (n+1) (Mj f (.int .i64 u.univ) (qm g))) (hS:fK w' g (nC (fun _=>false) u.addr (u.addr+s))):gN base w' mb (us++[(u,s)]):=by
 have hno:∀x∈us,x.1.univ≠u.univ:=by
  rcases hU u.univ with ⟨_,h2⟩ | ⟨g',e1,_⟩
  ·exact h2
  ·rw [hf] at e1;cases e1
 refine ⟨n+1,_,by simp;omega,hM,fun U=>?_,fun U V g1 h1 h2=>?_⟩
 ·by_cases c:U=u.univ
  ·subst c;refine .inr ⟨g,mV (vH _),hbg,hg,hgl,hS.cast (fun j=>?_)⟩;rw [yY us u s j,Ib us _ j hno];rfl
  ·rcases hU U with ⟨h1,h2⟩ | ⟨g',e1,e2,e3,e4,e5⟩
   ·refine .inl ⟨(jP (vD c)).trans h1,fun x hx=>?_⟩;simp only [List.mem_append,List.mem_singleton] at hx;rcases hx with hx | rfl
    ·exact h2 x hx
    ·exact fun e=>c e.symm
   ·exact .inr ⟨g',(jP (vD c)).trans e1,e2,e3,by omega,(e5.same (hb g' e3 e4)).cast (fun j=>xX us u s U j (fun e=>c e.symm))⟩
 ·have old:∀U,f (.int .i64 U)=some (qm g1)→g1<w.heap.size:=fun U h=>by
   rcases hU U with ⟨h1,_⟩ | ⟨g',e1,_,_,e4,_⟩
   ·rw [h] at h1;cases h1
   ·rw [h] at e1;have:=zP (Option.some.inj e1);omega
  by_cases c:U=u.univ
  ·by_cases d:V=u.univ
   ·rw [c,d]
   ·rw [jP (vD d)] at h2;rw [c,mV (vH _)] at h1;have:=zP (Option.some.inj h1);have:=old V h2;omega
  ·rw [jP (vD c)] at h1;by_cases d:V=u.univ
   ·rw [d,mV (vH _)] at h2;have:=zP (Option.some.inj h2);have:=old U h1;omega
   ·rw [jP (vD d)] at h2;exact hI U V g1 h1 h2
theorem fK.mark {w:World} {g:Nat} {m:Int→Bool} {a:Int} {k:Nat} (h:fK w g (nC m a k)) (ha:a≤k):fK (w.setCell ⟨g,k,none⟩ (.bool true)) g (nC m a ((k+1:Nat):Int)):=by
 intro j hj;obtain ⟨h1,h2⟩:=h j hj;by_cases c:j=k
 ·subst c;refine ⟨?_,(World.frozen?_setCell _ _ _ _).trans h2⟩;rw [World.cell?_setCell_same _ _ _ h1]
  have:nC m a ((j+1:Nat):Int) (j:Int)=true:=by
   unfold nC;have e1:decide (a≤(j:Int))=true:=by simpa using ha
   have e2:decide ((j:Int)<((j+1:Nat):Int))=true:=by simp;omega
   rw [e1,e2];simp
  rw [this]
 ·refine ⟨?_,(World.frozen?_setCell _ _ _ _).trans h2⟩;rw [World.cell?_setCell_other _ _ _ _ (by intro e;injection e with _ e;exact c e.symm)];rw [h1]
  have:nC m a ((k+1:Nat):Int) (j:Int)=nC m a (k:Int) (j:Int):=by
   unfold nC;congr 2
   simp only [decide_eq_decide];omega
  rw [this]
def uw (lib:List Prf) (l:List gX):List (gX×Int):=l.map (fun u=>(u,sizeOf' lib u))
theorem Lh (lib:List Prf) (l:List gX) (k:Nat) (h:k<l.length):uw lib (l.take (k+1))=uw lib (l.take k)++[(l[k],sizeOf' lib l[k])]:=by
 unfold uw;rw [List.take_succ_eq_append_getElem h,List.map_append];rfl
theorem sS {lib:List Prf} {u:gX} {p:Prf} (h:cZ lib u.nm=some p):sizeOf' lib u=p.size:=by simp [sizeOf',h]
theorem size_pos {lib:List Prf} (hl:eY lib=0) {u:gX} {p:Prf} (h:cZ lib u.nm=some p):1≤p.size∧p.size≤512:=(oh (qE hl (lN h).1)).2.1
theorem Jz {lib:List Prf} (hl:eY lib=0) (pre:List gX) (hp:∀x∈pre,∃p,cZ lib x.nm=some p) (u:gX) (p:Prf) (hu:cZ lib u.nm=some p) (hb:jc u p.size=false) :
  pre.any (jR lib u)=!lU (jU (uw lib pre) u.univ) u.addr p.size.toNat:=by
 obtain ⟨b1,b2,b3⟩:=kE hb;have hs:=size_pos hl hu;have hsu:=sS hu
 have key:pre.any (jR lib u)=true↔¬lU (jU (uw lib pre) u.univ) u.addr p.size.toNat=true:=by
  rw [Nh,List.any_eq_true];constructor
  ·rintro ⟨x,hx,hc⟩ hf;obtain ⟨q,hq⟩:=hp x hx;have hsq:=size_pos hl hq;have hsx:=sS hq;simp only [jR,lastOf,hsu,hsx,Bool.and_eq_true,decide_eq_true_eq] at hc;obtain ⟨⟨c1,c2⟩,c3⟩:=hc
   obtain ⟨m,hm1,hm2,hm3,hm4⟩:∃m:Int,u.addr≤m∧m<u.addr+p.size∧x.addr≤m∧m<x.addr+q.size:=by
    by_cases c:u.addr≤x.addr
    ·exact ⟨x.addr,c,by omega,by omega,by omega⟩
    ·exact ⟨u.addr,by omega,by omega,by omega,by omega⟩
   have:=(hf m hm1 (by omega)).2
   have:jU (uw lib pre) u.univ m=true:=by
    unfold jU;rw [List.any_eq_true];exact ⟨(x,sizeOf' lib x),List.mem_map.2 ⟨x,hx,rfl⟩,by simp only [hsx,Bool.and_eq_true,decide_eq_true_eq];exact ⟨c1,hm3,hm4⟩⟩
   simp_all
  ·intro hf;by_cases c:∃x∈pre,jR lib u x=true
   ·exact c
   ·refine absurd (fun m h1 h2=>⟨by omega,?_⟩) hf;unfold jU;rw [List.any_eq_false];intro y hy;obtain ⟨x,hx,rfl⟩:=List.mem_map.1 hy;obtain ⟨q,hq⟩:=hp x hx;have hsx:=sS hq;intro hcon;simp only [hsx,Bool.and_eq_true,decide_eq_true_eq] at hcon;obtain ⟨c1,c2,c3⟩:=hcon;refine c ⟨x,hx,?_⟩;simp only [jR,lastOf,hsu,hsx,Bool.and_eq_true,decide_eq_true_eq];exact ⟨⟨c1,by omega⟩,by omega⟩
 cases h:lU (jU (uw lib pre) u.univ) u.addr p.size.toNat<;>simp_all
theorem Jy {lib:List Prf} (pre:List gX) (u:gX) (h:∀x∈uw lib pre,x.1.univ≠u.univ):pre.any (jR lib u)=false:=by
 rw [List.any_eq_false];intro x hx;have:=h (x,sizeOf' lib x) (List.mem_map.2 ⟨x,hx,rfl⟩);simp [jR,this]
theorem Mr {lib:List Prf} {aF:List gX} {k:Nat} (hk:k≤aF.length) (h:∀j (hj:j<aF.length),j<k→jB lib (aF.take j) aF[j]=0):∀x∈aF.take k,∃p,cZ lib x.nm=some p:=by
 intro x hx;obtain ⟨j,hj,rfl⟩:=List.getElem_of_mem hx;rw [List.length_take] at hj;have h1:=h j (by omega) (by omega);obtain ⟨_,_,⟨p,hp,_⟩,_⟩:=mQ h1;exact ⟨p,by rw [List.getElem_take];exact hp⟩
theorem gQ {B:Nat} {w:World} {v:Value} {l:List jy} (h:jI B w v l):∃ao cap,v=.slice ao l.length cap:=by
 obtain ⟨lv,hlv,hcs,_⟩:=h;obtain ⟨ao,cap,rfl,_⟩:=aW.shape hcs;exact ⟨ao,cap,by rw [←hlv];simp⟩
theorem iH {B:Nat} {w:World} {v:Value} {l:List Prf} (h:jD B w v l):∃ao cap,v=.slice ao l.length cap:=by
 obtain ⟨lv,hlv,hcs,_⟩:=h;obtain ⟨ao,cap,rfl,_⟩:=aW.shape hcs;exact ⟨ao,cap,by rw [←hlv];simp⟩
theorem OP (lib:List Prf) (l:List gX):(uw lib l).length=l.length:=by simp [uw]
def fQ {α:Type} (t:α→Bool):List α→Nat→Int
 | [],_=>-1
 | x::l,i=>if t x then (i:Int) else fQ t l (i+1)
theorem Cm {α:Type} (t:α→Bool) (l:List α) (k:Nat) (h:k<l.length):fQ t (l.drop k) k=if t l[k] then (k:Int) else fQ t (l.drop (k+1)) (k+1):=by
 rw [List.drop_eq_getElem_cons h];rfl
theorem oV {α:Type} (t:α→Bool) (l:List α) (k:Nat) (h:k<l.length) (ht:t l[k]=true):fQ t (l.drop k) k=(k:Int):=by rw [Cm t l k h,ht];rfl
theorem tu {α:Type} (t:α→Bool) (l:List α) (k:Nat) (h:k<l.length) (ht:t l[k]=false):fQ t (l.drop k) k=fQ t (l.drop (k+1)) (k+1):=by rw [Cm t l k h,ht];rfl
theorem oW {α:Type} (t:α→Bool) (l:List α) (k:Nat) (h:l.length≤k):fQ t (l.drop k) k=-1:=by rw [List.drop_of_length_le h];rfl
theorem MU {α:Type} (t:α→Bool) (l:List α):∀i:Nat,(fQ t l i=-1∧l.find? t=none)∨∃(k:Nat) (h:k<l.length),fQ t l i=((i+k:Nat):Int)∧l.find? t=some l[k]:=by
 induction l with
 | nil=>intro i;exact .inl ⟨rfl,rfl⟩
 | cons x l ih=>
  intro i;cases hx:t x
  ·rcases ih (i+1) with ⟨h1,h2⟩ | ⟨k,hk,h1,h2⟩
   ·exact .inl ⟨by simp only [fQ,hx];simpa using h1,by rw [List.find?_cons,hx];exact h2⟩
   ·refine .inr ⟨k+1,by simpa using hk,?_,by rw [List.find?_cons,hx];simpa using h2⟩;simp only [fQ,hx];rw [show i+(k+1)=i+1+k by omega];simpa using h1
  ·exact .inr ⟨0,by simp,by simp [fQ,hx],by simp [hx]⟩
theorem lC {α:Type} (t:α→Bool) (l:List α):(fQ t l 0=-1∧l.find? t=none)∨∃(k:Nat) (h:k<l.length),fQ t l 0=(k:Int)∧l.find? t=some l[k]:=by
 rcases MU t l 0 with h | ⟨k,hk,h1,h2⟩
 ·exact .inl h
 ·exact .inr ⟨k,hk,by simpa using h1,h2⟩
end Go.Proofs.YtopmdeefcjdadaaGreat
