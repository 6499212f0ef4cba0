import Derived.Test.YtopmdeefcjdadaaGreatT41M00
import Derived.Test.YtopmdeefcjdadaaGreatT41M05
import Derived.Test.YtopmdeefcjdadaaGreatT41M02
import Derived.Test.YtopmdeefcjdadaaGreatT41M01
import Derived.Maps.OwnOps
import Derived.Maps.OwnSet
import Derived.Maps.Own
import Derived.Maps.Views
import Derived.Below
import Derived.Test.YtopmdeefcjdadaaGreatT41M03
import Derived.Maps.Keyed
import Derived.StringKeys
set_option linter.unusedVariables false
set_option linter.unusedSimpArgs false
set_option maxRecDepth 100000
set_option maxHeartbeats 32000000
namespace Go.Proofs.YtopmdeefcjdadaaGreat
open Go.RowKit
def sS.nm (r:sS):List UInt8:=r.name.data.toList
def ji.nm (r:ji):List UInt8:=r.name.data.toList
def Prf.nm (r:Prf):List UInt8:=r.name.data.toList
def gM.nm (r:gM):List UInt8:=r.yL.data.toList
def tF (r:sS):Bool:=!bU r.low 0 65535||!bU r.aC 0 65535||decide (r.aC<r.low)
def mJ (pre:List sS) (r:sS):Bool:=pre.getLast?.any (fun q=>decide (r.low≤q.aC))
def pY (pre:List sS) (r:sS):Int:=
 if tF r then 1 else if mJ pre r then 7 else if !dX r.nm then 5 else if r.nm∈pre.map sS.nm then 6 else 0
def gD (l:List sS):Int:=if 30<l.length then 2 else bP pY l 0
def gZ (p:ji):List Int:=if 0<p.fine then [p.sl,p.fine] else [p.sl]
def gW (pre:List ji):List Int:=pre.flatMap gZ
def lN (size:Int) (x:ji):Bool:=!bU x.sl 1 size||!bU x.fine 0 size||!bU x.dflt 0 65535
def j6 (pre:List ji) (x:ji):Bool:=decide (x.sl=x.fine)||decide (x.sl∈gW pre)||(decide (0<x.fine)&&decide (x.fine∈gW pre))
def jZ (size:Int) (pre:List ji) (x:ji):Int:=
 if !dX x.nm then 5 else if x.nm∈pre.map ji.nm then 6 else if !bU x.MN 1 4 then 4 else if lN size x then 1 else if j6 pre x then 12 else gD x.oN
def iw (p:Prf):Int:=
 if !dX p.nm then 5 else if !bU p.size 1 512 then 1 else if p.iL.length=0 then 8 else if 40<p.iL.length then 2 else bP (jZ p.size) p.iL 0
def nu (pre:List Prf) (p:Prf):Int:=if iw p≠0 then iw p else if p.nm∈pre.map Prf.nm then 6 else 0
def eu (l:List Prf):Int:=if 60<l.length then 2 else bP nu l 0
def cB (lib:List Prf) (n:List UInt8):Option Prf:=lib.find? (fun p=>decide (p.nm=n))
def sizeOf' (lib:List Prf) (u:gM):Int:=((cB lib u.nm).map Prf.size).getD 0
def lastOf (lib:List Prf) (u:gM):Int:=u.addr+sizeOf' lib u-1
def jK (lib:List Prf) (u x:gM):Bool:=decide (x.univ=u.univ)&&decide (x.addr≤lastOf lib u)&&decide (u.addr≤lastOf lib x)
def iP (u:gM) (size:Int):Bool:=!bU u.univ 1 64||!bU u.addr 1 512||decide (512<u.addr+size-1)
def jW (pre:List gM) (u:gM):Bool:=pre.getLast?.any (fun q=>decide (u.num≤q.num))
def jm (lib:List Prf) (pre:List gM) (u:gM):Int:=
 if !bU u.num 1 9999 then 1 else if jW pre u then 7 else if (cB lib u.nm).isNone then 5 else if iP u (sizeOf' lib u) then 1 else if pre.any (jK lib u) then 12 else 0
def bW (r:jw):Int:=if eu r.lib≠0 then eu r.lib else if 400<r.aD.length then 2 else bP (jm r.lib) r.aD 0
def zF (r:sS):Prop:=oI r.low∧oI r.aC∧r.name.size≤maxLen
def tV (p:ji):Prop:=oI p.MN∧oI p.sl∧oI p.fine∧oI p.dflt∧p.name.size≤maxLen∧∀r∈p.oN,zF r
def rC (p:Prf):Prop:=oI p.size∧p.name.size≤maxLen∧∀x∈p.iL,tV x
def C8 (u:gM):Prop:=oI u.num∧oI u.univ∧oI u.addr∧u.yL.size≤maxLen
def rA (r:jw):Prop:=(∀p∈r.lib,rC p)∧∀u∈r.aD,C8 u
theorem om {α:Type} (l:List α) (k:Nat) (h:k<l.length) (h0:0<k):(l.take k).getLast?=some (l[k-1]'(by omega)):=by
 rw [List.getLast?_eq_getElem?,List.length_take,Nat.min_eq_left (by omega),List.getElem?_take_of_lt (by omega),List.getElem?_eq_getElem (by omega)]
theorem iU {n lo hi:Int} (h:bU n lo hi=true):lo≤n∧n≤hi:=of_decide_eq_true h
theorem lZ {size:Int} {x:ji} (h:lN size x=false):(1≤x.sl∧x.sl≤size)∧(0≤x.fine∧x.fine≤size)∧0≤x.dflt∧x.dflt≤65535:=by
 simp only [lN,Bool.or_eq_false_iff,Bool.not_eq_false'] at h;exact ⟨iU h.1.1,iU h.1.2,iU h.2⟩
theorem rU {size:Int} {pre:List ji} {x:ji} (h:jZ size pre x=0):dX x.nm=true∧x.nm∉pre.map ji.nm∧(1≤x.MN∧x.MN≤4)∧lN size x=false∧j6 pre x=false∧gD x.oN=0:=by
 unfold jZ at h;cases h1:dX x.nm
 ·simp [h1] at h
 by_cases h2:x.nm∈pre.map ji.nm
 ·rw [h1,if_pos h2] at h;simp at h
 cases h3:bU x.MN 1 4
 ·rw [h1,if_neg h2,h3] at h;simp at h
 cases h4:lN size x
 ·cases h5:j6 pre x
  ·rw [h1,if_neg h2,h3,h4,h5] at h;simp at h;exact ⟨rfl,h2,iU h3,rfl,rfl,h⟩
  ·rw [h1,if_neg h2,h3,h4,h5] at h;simp at h
 ·rw [h1,if_neg h2,h3,h4] at h;simp at h
theorem nI {p:Prf} (h:iw p=0):dX p.nm=true∧(1≤p.size∧p.size≤512)∧0<p.iL.length∧p.iL.length≤40∧bP (jZ p.size) p.iL 0=0:=by
 unfold iw at h;cases h1:dX p.nm
 ·simp [h1] at h
 cases h2:bU p.size 1 512
 ·simp [h1,h2] at h
 by_cases h3:p.iL.length=0
 ·rw [h1,h2,if_pos h3] at h;simp at h
 by_cases h4:40<p.iL.length
 ·rw [h1,h2,if_neg h3,if_pos h4] at h;simp at h
 rw [h1,h2,if_neg h3,if_neg h4] at h;simp at h;exact ⟨rfl,iU h2,by omega,by omega,h⟩
theorem Kr {pre:List Prf} {p:Prf} (h:nu pre p=0):iw p=0∧p.nm∉pre.map Prf.nm:=by
 unfold nu at h;by_cases h1:iw p=0
 ·rw [if_neg (by simpa using h1)] at h;by_cases h2:p.nm∈pre.map Prf.nm
  ·rw [if_pos h2] at h;simp at h
  ·exact ⟨h1,h2⟩
 ·rw [if_pos h1] at h;exact absurd h h1
theorem fG {α:Type} (f:List α→α→Int) (l:List α) (h:bP f l 0=0) (k:Nat) (hk:k<l.length):f (l.take k) l[k]=0:=JY f l (by rw [←D8];exact h) k hk
theorem Fa {l:List Prf} (h:eu l=0):l.length≤60∧bP nu l 0=0:=by
 unfold eu at h;by_cases h1:60<l.length
 ·rw [if_pos h1] at h;simp at h
 ·rw [if_neg h1] at h;exact ⟨by omega,h⟩
theorem pq {l:List Prf} (h:eu l=0) {p:Prf} (hp:p∈l):iw p=0:=by
 obtain ⟨k,hk,rfl⟩:=List.getElem_of_mem hp;exact (Kr (fG _ _ (Fa h).2 k hk)).1
theorem iV {r:jw} (h:bW r=0):eu r.lib=0∧r.aD.length≤400∧bP (jm r.lib) r.aD 0=0:=by
 unfold bW at h;by_cases h1:eu r.lib=0
 ·rw [if_neg (by simpa using h1)] at h;by_cases h2:400<r.aD.length
  ·rw [if_pos h2] at h;simp at h
  ·rw [if_neg h2] at h;exact ⟨h1,by omega,h⟩
 ·rw [if_pos h1] at h;exact absurd h h1
theorem lC {lib:List Prf} {n:List UInt8} {p:Prf} (h:cB lib n=some p):p∈lib∧p.nm=n:=
 by
 unfold cB at h;exact ⟨List.mem_of_find?_eq_some h,by simpa using List.find?_some h⟩
theorem mq {lib:List Prf} {pre:List gM} {u:gM} (h:jm lib pre u=0):(1≤u.num∧u.num≤9999)∧jW pre u=false∧(∃p,cB lib u.nm=some p∧iP u p.size=false)∧pre.any (jK lib u)=false:=by
 unfold jm at h;cases h1:bU u.num 1 9999
 ·simp [h1] at h
 cases h2:jW pre u
 rotate_left
 ·simp [h1,h2] at h
 cases h3:cB lib u.nm with
 | none=>simp [h1,h2,h3] at h
 | some p=>
  have hs:sizeOf' lib u=p.size:=by simp [sizeOf',h3]
  rw [h1,h2,h3,hs] at h;cases h4:iP u p.size
  ·cases h5:pre.any (jK lib u)
   ·exact ⟨iU h1,rfl,⟨p,rfl,h4⟩,rfl⟩
   ·simp [h4,h5] at h
  ·simp [h4] at h
theorem jX {u:gM} {size:Int} (h:iP u size=false):(1≤u.univ∧u.univ≤64)∧(1≤u.addr∧u.addr≤512)∧u.addr+size-1≤512:=by
 simp only [iP,Bool.or_eq_false_iff,Bool.not_eq_false',decide_eq_false_iff_not] at h;exact ⟨iU h.1.1,iU h.1.2,by omega⟩
end Go.Proofs.YtopmdeefcjdadaaGreat
namespace Go.Proofs.YtopmdeefcjdadaaGreat
open Go.ChangeShapes Go.WideShapes Go.RowKit Go.Deep
section
variable {H:Type} {enc:TypeId×Value→H} {P:Program} {w:World} {held:Bool}
theorem oh {β:Type} [Inhabited β] {SL E:TypeId} {n:Nat} (f:β→List Value) (Good:β→Prop) (hn:∀y,(f y).length=n) (hn0:0<n) (hSL:P.underlying SL=some (.slice E)) (hc:P.cellsOf E=n)
  (elem:∀fuel cs x,DataW.trod enc P w 0 (fun _=>true) held fuel E cs=some x→∃y,cs=f y∧Good y)
  {fuel:Nat} {cs:List Value} {x:DataW H×List MemPlace} (h:DataW.trod enc P w 0 (fun _=>true) held fuel SL cs=some x) :
  ∃(v:Value) (l:List β),cs=[v]∧aW w.heap.size w v l.length (l.flatMap f)∧∀y∈l,Good y:=by
 rcases open_slice hSL h with ⟨rfl,_⟩ | ⟨a,len,cap,m,nn,D,Pl,rfl,_,hl,hm,hmm,_,hx⟩
 ·exact ⟨_,[],rfl,aW.nil _ _,by simp⟩
 ·simp only [if_true] at hmm;subst hmm
  have he:∀i,i<len→∃y:β,(∀j,j<n→w.cell? ((a.add (i*n)).add j)=(f y)[j]?)∧Good y:=by
   intro i hi;obtain ⟨cs',h1,h2⟩:=hx i (by omega);rw [hc] at h1;obtain ⟨_,hcl,hat⟩:=World.cells?_some h1;obtain ⟨y,rfl,hy⟩:=elem _ _ _ h2;exact ⟨y,hat,hy⟩
  obtain ⟨Y,hY⟩:=choose_lt he;refine ⟨_,(List.range len).map Y,rfl,⟨some a,m,by simp,by simpa using hl,hm,fun hpos=>?_⟩,?_⟩
  ·have h0:0<len:=by simpa using hpos
   have hc0:∃u,w.cell? ((a.add (0*n)).add 0)=some u:=by
    rw [(hY 0 h0).1 0 hn0];exact ⟨_,List.getElem?_eq_getElem (by rw [hn];exact hn0)⟩
   obtain ⟨u0,hu0⟩:=hc0
   have hsp:a.spot=none:=by
    have:=World.cell?_spot hu0;simpa [Addr.add] using this
   obtain ⟨b,off,spot⟩:=a;simp only at hsp;subst hsp;refine ⟨b,off,rfl,?_,fun j u hu=>?_⟩
   ·have:=World.block_lt_of_cell? w _ hu0;simpa [Addr.add] using this
   ·have hj:j<(((List.range len).map Y).flatMap f).length:=(List.getElem?_eq_some_iff.1 hu).1;rw [zu f n hn] at hj;simp only [List.length_map,List.length_range] at hj;have hi:j / n<len:=Nat.div_lt_of_lt_mul (by rw [Nat.mul_comm];exact hj);have hr:j % n<n:=Nat.mod_lt _ hn0;have hjj:j=j / n*n+j % n:=by rw [Nat.mul_comm];exact (Nat.div_add_mod j n).symm
    rw [hjj,flat_get f n hn ((List.range len).map Y) (j / n) (by simpa using hi) (j % n) hr] at hu;have h1:=(hY (j / n) hi).1 (j % n) hr;rw [jf,jf] at h1;simp only [List.getElem_map,List.getElem_range] at hu;rw [hu] at h1;rw [hjj];rw [Nat.add_assoc] at h1;exact h1
  ·intro y hy;simp at hy;obtain ⟨i,hi,rfl⟩:=hy;exact (hY i hi).2
theorem list7 {α:Type} {l:List α} (h:l.length=7):∃a b c d e f g,l=[a,b,c,d,e,f,g]:=by
 match l,h with
 | [a,b,c,d,e,f,g],_=>exact ⟨a,b,c,d,e,f,g,rfl⟩
theorem list4 {α:Type} {l:List α} (h:l.length=4):∃a b c d,l=[a,b,c,d]:=by
 match l,h with
 | [a,b,c,d],_=>exact ⟨a,b,c,d,rfl⟩
theorem list3' {α:Type} {l:List α} (h:l.length=3):∃a b c,l=[a,b,c]:=by
 match l,h with
 | [a,b,c],_=>exact ⟨a,b,c,rfl⟩
theorem kE {fuel:Nat} {t:TypeId} {u:Value} {y:DataW H×List MemPlace} (ht:P.underlying t=some .string) (h:DataW.trod enc P w 0 (fun _=>true) held fuel t [u]=some y):∃s:ByteArray,u=.string s∧s.size≤maxLen:=by
 obtain ⟨a2,e2,_,w2⟩:=DataW.trod_string ht h;simp at e2;exact ⟨a2,e2,w2⟩
theorem Ie {fuel:Nat} {t:TypeId} {u:Value} {y:DataW H×List MemPlace} (ht:P.underlying t=some .bool) (h:DataW.trod enc P w 0 (fun _=>true) held fuel t [u]=some y):∃s:Bool,u=.bool s:=by
 obtain ⟨a2,e2,_⟩:=DataW.trod_bool ht h;simp at e2;exact ⟨a2,e2⟩
end
instance:Inhabited sS:=⟨⟨0,0,ByteArray.empty⟩⟩
instance:Inhabited ji:=⟨⟨ByteArray.empty,0,0,0,0,false,[]⟩⟩
instance:Inhabited Prf:=⟨⟨ByteArray.empty,0,[]⟩⟩
instance:Inhabited gM:=⟨⟨0,ByteArray.empty,0,0⟩⟩
section
variable {H:Type} {enc:TypeId×Value→H} {w:World} {held:Bool}
theorem Gx {fuel:Nat} {cs:List Value} {x:DataW H×List MemPlace} (h:DataW.trod enc Tryz.prog w 0 (fun _=>true) held fuel 161 cs=some x) :
  ∃y:sS,cs=rngC y∧zF y:=by
 have hc:Tryz.prog.cellsOf 161=3:=by kernel_rfl
 obtain ⟨hl,n,hf⟩:=fB Tryz.underlying161 (by kernel_rfl) hc h;obtain ⟨u0,u1,u2,rfl⟩:=list3' hl;obtain ⟨x0,y0,q0,k0⟩:=hf 0 _ rfl;obtain ⟨x1,y1,q1,k1⟩:=hf 1 _ rfl;obtain ⟨x2,y2,q2,k2⟩:=hf 2 _ rfl;simp at q0 q1 q2;subst q0 q1 q2;obtain ⟨a0,rfl,w0⟩:=bR Tryz.underlying3 k0;obtain ⟨a1,rfl,w1⟩:=bR Tryz.underlying3 k1;obtain ⟨a2,rfl,w2⟩:=kE Tryz.underlying9 k2;exact ⟨⟨a0,a1,a2⟩,rfl,bQ w0,bQ w1,w2⟩
theorem Gy {fuel:Nat} {cs:List Value} {x:DataW H×List MemPlace} (h:DataW.trod enc Tryz.prog w 0 (fun _=>true) held fuel 81 cs=some x) :
  ∃y:ji×Value,cs=parC y∧mZ w.heap.size w y.2 y.1.oN∧tV y.1:=by
 have hc:Tryz.prog.cellsOf 81=7:=by kernel_rfl
 obtain ⟨hl,n,hf⟩:=fB Tryz.underlying81 (by kernel_rfl) hc h;obtain ⟨u0,u1,u2,u3,u4,u5,u6,rfl⟩:=list7 hl;obtain ⟨x0,y0,q0,k0⟩:=hf 0 _ rfl;obtain ⟨x1,y1,q1,k1⟩:=hf 1 _ rfl;obtain ⟨x2,y2,q2,k2⟩:=hf 2 _ rfl;obtain ⟨x3,y3,q3,k3⟩:=hf 3 _ rfl;obtain ⟨x4,y4,q4,k4⟩:=hf 4 _ rfl;obtain ⟨x5,y5,q5,k5⟩:=hf 5 _ rfl;obtain ⟨x6,y6,q6,k6⟩:=hf 6 _ rfl;simp at q0 q1 q2 q3 q4 q5 q6;subst q0 q1 q2 q3 q4 q5 q6;obtain ⟨a0,rfl,w0⟩:=kE Tryz.underlying9 k0;obtain ⟨a1,rfl,w1⟩:=bR Tryz.underlying3 k1;obtain ⟨a2,rfl,w2⟩:=bR Tryz.underlying3 k2;obtain ⟨a3,rfl,w3⟩:=bR Tryz.underlying3 k3;obtain ⟨a4,rfl,w4⟩:=bR Tryz.underlying3 k4;obtain ⟨a5,rfl⟩:=Ie Tryz.underlying4 k5;obtain ⟨v,l,e,h1,h2⟩:=oh (n:=3) rngC zF (fun _=>rfl) (by omega) Tryz.underlying79 (by kernel_rfl) (fun _ _ _ h=>Gx h) k6;simp at e;subst e;exact ⟨(⟨a0,a1,a2,a3,a4,a5,l⟩,_),rfl,h1,bQ w1,bQ w2,bQ w3,bQ w4,w0,h2⟩
theorem Ee {fuel:Nat} {cs:List Value} {x:DataW H×List MemPlace} (h:DataW.trod enc Tryz.prog w 0 (fun _=>true) held fuel 69 cs=some x) :
  ∃v l,cs=[v]∧jy w.heap.size w v l∧∀y∈l,tV y:=by
 obtain ⟨v,l,e,h1,h2⟩:=oh (n:=7) parC (fun y=>mZ w.heap.size w y.2 y.1.oN∧tV y.1) (fun _=>rfl) (by omega) Tryz.underlying69 (by kernel_rfl) (fun _ _ _ h=>Gy h) h;refine ⟨v,l.map (·.1),e,⟨l,rfl,h1,fun y hy=>(h2 y hy).1⟩,fun y hy=>?_⟩;obtain ⟨z,hz,rfl⟩:=List.mem_map.1 hy;exact (h2 z hz).2
theorem BO {fuel:Nat} {cs:List Value} {x:DataW H×List MemPlace} (h:DataW.trod enc Tryz.prog w 0 (fun _=>true) held fuel 71 cs=some x) :
  ∃y:Prf×Value,cs=prfC y∧jy w.heap.size w y.2 y.1.iL∧rC y.1:=by
 have hc:Tryz.prog.cellsOf 71=3:=by kernel_rfl
 obtain ⟨hl,n,hf⟩:=fB Tryz.underlying71 (by kernel_rfl) hc h;obtain ⟨u0,u1,u2,rfl⟩:=list3' hl;obtain ⟨x0,y0,q0,k0⟩:=hf 0 _ rfl;obtain ⟨x1,y1,q1,k1⟩:=hf 1 _ rfl;obtain ⟨x2,y2,q2,k2⟩:=hf 2 _ rfl;simp at q0 q1 q2;subst q0 q1 q2;obtain ⟨a0,rfl,w0⟩:=kE Tryz.underlying9 k0;obtain ⟨a1,rfl,w1⟩:=bR Tryz.underlying3 k1;obtain ⟨v,l,e,h1,h2⟩:=Ee k2;simp at e;subst e;exact ⟨(⟨a0,a1,l⟩,_),rfl,h1,bQ w1,w0,h2⟩
theorem zV {fuel:Nat} {cs:List Value} {x:DataW H×List MemPlace} (h:DataW.trod enc Tryz.prog w 0 (fun _=>true) held fuel 22 cs=some x) :
  ∃v l,cs=[v]∧jq w.heap.size w v l∧∀y∈l,rC y:=by
 obtain ⟨v,l,e,h1,h2⟩:=oh (n:=3) prfC (fun y=>jy w.heap.size w y.2 y.1.iL∧rC y.1) (fun _=>rfl) (by omega) Tryz.underlying22 (by kernel_rfl) (fun _ _ _ h=>BO h) h;refine ⟨v,l.map (·.1),e,⟨l,rfl,h1,fun y hy=>(h2 y hy).1⟩,fun y hy=>?_⟩;obtain ⟨z,hz,rfl⟩:=List.mem_map.1 hy;exact (h2 z hz).2
theorem Kh {fuel:Nat} {cs:List Value} {x:DataW H×List MemPlace} (h:DataW.trod enc Tryz.prog w 0 (fun _=>true) held fuel 67 cs=some x) :
  ∃y:gM,cs=untC y∧C8 y:=by
 have hc:Tryz.prog.cellsOf 67=4:=by kernel_rfl
 obtain ⟨hl,n,hf⟩:=fB Tryz.underlying67 (by kernel_rfl) hc h;obtain ⟨u0,u1,u2,u3,rfl⟩:=list4 hl;obtain ⟨x0,y0,q0,k0⟩:=hf 0 _ rfl;obtain ⟨x1,y1,q1,k1⟩:=hf 1 _ rfl;obtain ⟨x2,y2,q2,k2⟩:=hf 2 _ rfl;obtain ⟨x3,y3,q3,k3⟩:=hf 3 _ rfl;simp at q0 q1 q2 q3;subst q0 q1 q2 q3;obtain ⟨a0,rfl,w0⟩:=bR Tryz.underlying3 k0;obtain ⟨a1,rfl,w1⟩:=kE Tryz.underlying9 k1;obtain ⟨a2,rfl,w2⟩:=bR Tryz.underlying3 k2;obtain ⟨a3,rfl,w3⟩:=bR Tryz.underlying3 k3;exact ⟨⟨a0,a1,a2,a3⟩,rfl,bQ w0,bQ w2,bQ w3,w1⟩
theorem Gu {fuel:Nat} {cs:List Value} {x:DataW H×List MemPlace} (h:DataW.trod enc Tryz.prog w 0 (fun _=>true) held fuel 23 cs=some x) :
  ∃v l,cs=[v]∧pF w.heap.size w v l∧∀y∈l,C8 y:=oh (n:=4) untC C8 (fun _=>rfl) (by omega) Tryz.underlying23 (by kernel_rfl) (fun _ _ _ h=>Kh h) h
def kS (lv uv:Value):Value:=.agg #[lv,uv]
structure kH (B:Nat) (w:World) (x:jw) (lv uv:Value):Prop where
 lib:jq B w lv x.lib
 aD:pF B w uv x.aD
theorem kH.below {B:Nat} {w w':World} {x:jw} {lv uv:Value} (h:kH B w x lv uv) (hb:Below B w w'):kH B w' x lv uv:=⟨h.lib.below hb,h.aD.below hb⟩
theorem kH.more {B B':Nat} {w:World} {x:jw} {lv uv:Value} (h:kH B w x lv uv) (hB:B≤B'):kH B' w x lv uv:=⟨h.lib.more hB,h.aD.more hB⟩
def RigW (w:World) (v:Value):Prop:=∃(x:jw) (lv uv:Value),v=kS lv uv∧kH w.heap.size w x lv uv∧rA x
theorem open_rig {r:Reach} {b0:Nat} {v:Value} {d:DataW H} {p:List MemPlace} (hv:Value.okWide Tryz.prog w r b0 25 v) (h:DataW.Trod enc Tryz.prog w 0 (fun _=>true) held 25 v d p) :
  ∃a:Value,v=a∧RigW w a:=by
 obtain ⟨cs,n,rfl,hl,hf⟩:=Ce Tryz.underlying25 (by kernel_rfl) (by kernel_rfl) hv h;obtain ⟨u0,u1,rfl⟩:=Jp hl;obtain ⟨x0,y0,q0,k0⟩:=hf 0 _ rfl;obtain ⟨x1,y1,q1,k1⟩:=hf 1 _ rfl;simp at q0 q1;subst q0 q1;obtain ⟨v0,l0,e0,h0,f0⟩:=zV k0;simp at e0;subst e0;obtain ⟨v1,l1,e1,h1,f1⟩:=Gu k1;simp at e1;subst e1;exact ⟨_,rfl,⟨l0,l1⟩,_,_,rfl,⟨h0,h1⟩,f0,f1⟩
end
end Go.Proofs.YtopmdeefcjdadaaGreat
namespace Go.Proofs.YtopmdeefcjdadaaGreat
open Go.Maps (Keyed IsMap atKey_put_same atKey_put_other)
open Go.ChangeShapes Go.WideShapes Go.RowKit
def D6 (v:Value):Option (DataW Value×List MemPlace):=some (.held v,[])
structure jA (w:World) (P:Program) (k:TypeId) (b n:Nat) (f:Lit→Option Value):Prop where
 own:∃D:DataW Value,w.ownsMap P k D6 b n D∧IsMap D∧∀kl,(f kl=none→∀z,D.atKey kl z=z)∧(∀v,f kl=some v→∀z,D.atKey kl z=.held v)
def Kn (f:Lit→Option Value) (kl:Lit) (v:Value):Lit→Option Value:=fun x=>if x.sameKey kl then some v else f x
theorem mE {f:Lit→Option Value} {kl:Lit} {v:Value} (hk:WideAt.IsKeyLit kl):Kn f kl v kl=some v:=by unfold Kn;rw [WideAt.sameKey_self hk];rfl
theorem jI {f:Lit→Option Value} {kl x:Lit} {v:Value} (h:x≠kl):Kn f kl v x=f x:=by unfold Kn;rw [Maps.sameKey_ne h];rfl
section
variable {w:World} {P:Program} {k:TypeId} {b n:Nat} {f:Lit→Option Value}
theorem Bc (w:World) (P:Program) (k:TypeId):jA (w.alloc (.map #[] 0)) P k w.heap.size 0 (fun _=>none):=
 ⟨.map [],World.ownsMap_made w P k _,⟨_,rfl⟩,fun kl=>⟨fun _ z=>WideAt.atKey_none _ (by simp),fun v h=>by cases h⟩⟩
theorem jA.kept {w':World} {row:Option Nat} (h:jA w P k b n f) (hg:w.grownBy w' row) (hne:some b≠row):jA w' P k b n f:=by
 obtain ⟨D,h1,h2,h3⟩:=h.own;exact ⟨D,h1.kept hg hne,h2,h3⟩
theorem jA.below {B:Nat} {w':World} (h:jA w P k b n f) (hb:Below B w w') (hlt:b<B):jA w' P k b n f:=by
 obtain ⟨D,⟨es,clock,h1,h2,h3,h4⟩,h5,h6⟩:=h.own;exact ⟨D,⟨es,clock,(hb.block _ hlt).trans h1,h2,h3,h4⟩,h5,h6⟩
theorem jA.same {w':World} (h:jA w P k b n f) (hb:w'.heap[b]?=w.heap[b]?):jA w' P k b n f:=by
 obtain ⟨D,⟨es,clock,h1,h2,h3,h4⟩,h5,h6⟩:=h.own;exact ⟨D,⟨es,clock,hb.trans h1,h2,h3,h4⟩,h5,h6⟩
theorem jA.lt (h:jA w P k b n f):b<w.heap.size:=by
 obtain ⟨D,h1,_⟩:=h.own;exact h1.lt
theorem jA.mono (h:jA w P k b n f) {n':Nat} (hn:n≤n'):jA w P k b n' f:=by
 obtain ⟨D,h1,h2⟩:=h.own;exact ⟨D,h1.mono hn,h2⟩
theorem jA.cast (h:jA w P k b n f) {g:Lit→Option Value} (hg:∀kl,g kl=f kl):jA w P k b n g:=by
 obtain rfl:g=f:=funext hg;exact h
theorem jA.look {t e:TypeId} (h:jA w P k b n f) (c:Bool) (K:Keyed P k) (ht:P.underlying t=some (.map k e)) {z:Value} (hz:(zeroValue e).run P w=.ok z w) {key:Value} {kl:Lit} (hkey:keyOf P k key=some kl) :
  (Instr.lookup t (.map (some b)) key c).run P w=.ok (if c then .tuple #[(f kl).getD z,.bool (f kl).isSome] else (f kl).getD z) w:=by
 obtain ⟨D,⟨es,clock,hb,F,_,rfl⟩,h2,h3⟩:=h.own;obtain ⟨h4,h5⟩:=h3 kl;rcases Maps.fit_look c K ht hz hb F hkey with ⟨hrun,_,hat⟩ | ⟨e0,y,_,_,hrun,hRv,hat,_⟩
 ·rw [hrun]
  cases hf:f kl with
  | none=>simp
  | some v=>
   have:=(hat .nil).symm.trans (h5 v hf .nil);cases this
 ·rw [hrun];unfold D6 at hRv;simp only [Option.some.injEq] at hRv;subst hRv
  cases hf:f kl with
  | none=>
   have:=(hat .nil).symm.trans (h4 hf .nil);cases this
  | some v=>
   have:=(hat .nil).symm.trans (h5 v hf .nil);simp only [DataW.held.injEq] at this;rw [this];simp
theorem jA.update {t e:TypeId} (h:jA w P k b n f) (K:Keyed P k) (ht:P.underlying t=some (.map k e)) (hn:n<maxLen) {key val:Value} {kl:Lit} (hkey:keyOf P k key=some kl) :
  ∃w',(Instr.mapUpdate t (.map (some b)) key val).run P w=.ok () w'∧jA w' P k b (n+1) (Kn f kl val)∧w.grownBy w' (some b):=by
 obtain ⟨D,h1,h2,h3⟩:=h.own;obtain ⟨w',hrun,r1,r2⟩:=h1.update K ht hn hkey (val:=val) (d:=.held val) (ps:=[]) rfl;refine ⟨w',hrun,⟨_,r1,h2.put _ _,fun kl'=>?_⟩,r2⟩;by_cases c:kl'=kl
 ·subst c;rw [mE (K.key hkey)];refine ⟨by simp,fun v hv z=>?_⟩;obtain rfl:=Option.some.inj hv;exact atKey_put_same h2 (K.key hkey) _ _
 ·rw [jI c];exact ⟨fun h z=>(atKey_put_other c _ _).trans ((h3 kl').1 h z),fun v hv z=>(atKey_put_other c _ _).trans ((h3 kl').2 v hv z)⟩
end
section
variable {P:Program} (w:World) {ops:Array Oper} {rest:List Oper} {o:Oper} {a:Act} {Q:Exit→Act→World→Prop}
end
end Go.Proofs.YtopmdeefcjdadaaGreat
namespace Go.Proofs.YtopmdeefcjdadaaGreat
open Go.RowKit
theorem dM (n:Int) (w:World):Calls Tryz.prog 93 #[.int .i64 n] w fun e w'=>e=.returned (.bool (bU n 0 65535))∧w=w':=by
 go_enter Tryz.func93,Tryz.ntmps93;go_wp2_with (go_at_call 31;refine (aU _ _ _ _).mono ?_;rintro e w' ⟨rfl,rfl⟩);go_ret;exact ⟨rfl,rfl⟩
theorem nK (w:World):(zeroValue 4).run Tryz.prog w=.ok (.bool false) w:=by kernel_rfl
theorem sP:Maps.Keyed Tryz.prog 9:=Maps.string_keyed Tryz.underlying9
theorem nE:Maps.Keyed Tryz.prog 3:=Maps.int_keyed Tryz.underlying3
theorem Cm {s:ByteArray} (h:s.size≤maxLen):keyOf Tryz.prog 9 (.string s)=some (.string s.data.toList):=WideMaps.keyOf_string_mk Tryz.underlying9 h
theorem i64wf_ {a:Int} (h:oI a):(Lit.int .i64 a).wf=true:=by
 unfold oI at h;simp [Lit.wf,IntKind.min,IntKind.max,IntKind.signed,IntKind.bits];omega
theorem l7 {a:Int} (h:oI a):keyOf Tryz.prog 3 (.int .i64 a)=some (.int .i64 a):=Maps.keyOf_int_mk Tryz.underlying3 (i64wf_ h)
theorem yR {α:Type} (f:α→List UInt8) (l:List α) (x:List UInt8):Lit.string x∈l.map (fun y=>Lit.string (f y))↔x∈l.map f:=by
 rw [List.mem_map,List.mem_map];constructor
 ·rintro ⟨y,h1,h2⟩;injection h2 with h2;exact ⟨y,h1,h2⟩
 ·rintro ⟨y,h1,h2⟩;exact ⟨y,h1,by rw [h2]⟩
theorem EG (l:List Int) (x:Int):Lit.int .i64 x∈l.map (Lit.int .i64)↔x∈l:=by
 rw [List.mem_map];constructor
 ·rintro ⟨y,h1,h2⟩;injection h2 with _ h2;subst h2;exact h1
 ·intro h;exact ⟨x,h,rfl⟩
theorem vo {α:Type} (f:α→List UInt8) (l:List α) (k:Nat) (h:k<l.length):(l.take (k+1)).map (fun y=>Lit.string (f y))=(l.take k).map (fun y=>Lit.string (f y))++[Lit.string (f l[k])]:=by
 rw [List.take_succ_eq_append_getElem h,List.map_append];rfl
end Go.Proofs.YtopmdeefcjdadaaGreat
namespace Go.Proofs.YtopmdeefcjdadaaGreat
open Go.RowKit
open Go.Maps (Keyed)
section
variable {w:World} {P:Program} {k e:TypeId} {b n:Nat} {S:List Lit}
theorem dz.mono (h:dz w P k e b n S) {m:Nat} (hm:n≤m):dz w P k e b m S:=by
 obtain ⟨D,h1,h2⟩:=h.own;exact ⟨D,h1.mono hm,h2⟩
theorem dz.drew (h:dz w P k e b n S):dz w.drew P k e b n S:=by
 obtain ⟨D,h1,h2⟩:=h.own;exact ⟨D,h1.drew,h2⟩
theorem dz.look (h:dz w P k e b n S) (K:Keyed P k) {t:TypeId} (ht:P.underlying t=some (.map k e)) (he:P.underlying e=some .bool) (hz:(zeroValue e).run P w=.ok (.bool false) w) {key:Value} {kl:Lit} (hkey:keyOf P k key=some kl) (c:Bool) (hc:c=true↔kl∈S) :
  (Instr.lookup t (.map (some b)) key false).run P w=.ok (.bool c) w:=by
 obtain ⟨D,h1,h2,h3⟩:=h.own;obtain ⟨v,ps,hrun,hv⟩:=h1.lookup K ht hz (plainElem_bool he false) hkey;obtain ⟨x',rfl,hx'⟩:=mM he hv;obtain ⟨c',h4,h5⟩:=h3 kl;rw [h4] at hx';simp at hx';obtain ⟨hxe,rfl⟩:=hx';subst hxe;rw [hrun]
 have:c=c':=by
  cases c<;>cases c'<;>simp_all
 rw [this]
theorem dz.xK (h:dz w P k e b n S) (K:Keyed P k) {t:TypeId} (ht:P.underlying t=some (.map k e)) (he:P.underlying e=some .bool) (hz:(zeroValue e).run P w=.ok (.bool false) w) {key:Value} {kl:Lit} (hkey:keyOf P k key=some kl) (hc:kl∈S) :
  (Instr.lookup t (.map (some b)) key false).run P w=.ok (.bool true) w:=h.look K ht he hz hkey true (by simp [hc])
theorem dz.uF (h:dz w P k e b n S) (K:Keyed P k) {t:TypeId} (ht:P.underlying t=some (.map k e)) (he:P.underlying e=some .bool) (hz:(zeroValue e).run P w=.ok (.bool false) w) {key:Value} {kl:Lit} (hkey:keyOf P k key=some kl) (hc:kl∉S) :
  (Instr.lookup t (.map (some b)) key false).run P w=.ok (.bool false) w:=h.look K ht he hz hkey false (by simp [hc])
theorem dz.update (h:dz w P k e b n S) (K:Keyed P k) {t:TypeId} (ht:P.underlying t=some (.map k e)) (he:P.underlying e=some .bool) (hn:n<maxLen) {key:Value} {kl:Lit} (hkey:keyOf P k key=some kl) :
  ∃w',(Instr.mapUpdate t (.map (some b)) key (.bool true)).run P w=.ok () w'∧dz w' P k e b (n+1) (S++[kl])∧w.grownBy w' (some b):=by
 obtain ⟨D,h1,h2,h3⟩:=h.own;obtain ⟨w',hrun,r1,r2⟩:=h1.update K ht hn hkey (plainElem_bool he true);exact ⟨w',hrun,dz.put h2 h3 (K.key hkey) r1,r2⟩
end
theorem dR {w w':World} {row b off:Nat} (h:w.grownBy w' (some row)) (hb:b<w.heap.size) (hne:b≠row):w'.cell? ⟨b,off,none⟩=w.cell? ⟨b,off,none⟩:=
 World.cell?_of_block (h.block b hb (by intro e;injection e with e;exact hne e))
end Go.Proofs.YtopmdeefcjdadaaGreat
namespace Go.Proofs.YtopmdeefcjdadaaGreat
open Go.RowKit
def fD (w:World) (g:Nat) (m:Int→Bool):Prop:=∀j:Nat,j≤512→w.cell? ⟨g,j,none⟩=some (.bool (m j))∧w.frozen? ⟨g,j,none⟩=false
theorem fD.same {w w':World} {g:Nat} {m:Int→Bool} (h:fD w g m) (hb:w'.heap[g]?=w.heap[g]?):fD w' g m:=fun j hj=>
 ⟨(World.cell?_of_block (a:=⟨g,j,none⟩) hb).trans (h j hj).1,(World.frozen?_of_block (a:=⟨g,j,none⟩) hb).trans (h j hj).2⟩
theorem fD.cast {w:World} {g:Nat} {m m':Int→Bool} (h:fD w g m) (hm:∀j,m' j=m j):fD w g m':=fun j hj=>by
 rw [hm];exact h j hj
def lH (m:Int→Bool):Int→Nat→Bool
 | _,0=>true
 | a,n+1=>decide (a≤512)&&(!m a&&lH m (a+1) n)
theorem Lu (m:Int→Bool) (n:Nat):∀a:Int,lH m a n=true↔∀k:Int,a≤k→k<a+n→k≤512∧m k=false:=by
 induction n with
 | zero=>intro a;simp only [lH,true_iff];intro k h1 h2;omega
 | succ n ih=>
  intro a;simp only [lH,Bool.and_eq_true,decide_eq_true_eq,Bool.not_eq_true',ih (a+1)];constructor
  ·rintro ⟨h1,h2,h3⟩ k h4 h5;by_cases c:k=a
   ·subst c;exact ⟨h1,h2⟩
   ·exact h3 k (by omega) (by omega)
  ·intro h;have h1:=h a (by omega) (by omega);exact ⟨h1.1,h1.2,fun k h4 h5=>h k (by omega) (by omega)⟩
def jO (us:List (gM×Int)) (U k:Int):Bool:=us.any (fun x=>decide (x.1.univ=U)&&(decide (x.1.addr≤k)&&decide (k<x.1.addr+x.2)))
theorem wR (us:List (gM×Int)) (u:gM) (s U k:Int) (h:u.univ≠U):jO (us++[(u,s)]) U k=jO us U k:=by
 simp [jO,h]
theorem xU (us:List (gM×Int)) (u:gM) (s k:Int):jO (us++[(u,s)]) u.univ k=(jO us u.univ k||(decide (u.addr≤k)&&decide (k<u.addr+s))):=by
 simp [jO]
theorem Gh (us:List (gM×Int)) (U k:Int) (h:∀x∈us,x.1.univ≠U):jO us U k=false:=by
 unfold jO;rw [List.any_eq_false];intro x hx;simp [h x hx]
def oP (g:Nat):Value:=.pointer (some ⟨g,0,none⟩)
def Fv (base:Nat) (w:World) (mb:Nat) (us:List (gM×Int)) (f:Lit→Option Value) (U:Int):Prop:=
 (f (.int .i64 U)=none∧∀x∈us,x.1.univ≠U)∨∃g,f (.int .i64 U)=some (oP g)∧base≤g∧g≠mb∧g<w.heap.size∧fD w g (jO us U)
def gG (base:Nat) (w:World) (mb:Nat) (us:List (gM×Int)):Prop:=
 ∃n f,n≤us.length∧jA w Tryz.prog 3 mb n f∧(∀U,Fv base w mb us f U)∧∀U V g,f (.int .i64 U)=some (oP g)→f (.int .i64 V)=some (oP g)→U=V
theorem yK {g h:Nat} (e:oP g=oP h):g=h:=by unfold oP at e;simpa using e
theorem uJ (U:Int):WideAt.IsKeyLit (.int .i64 U):=trivial
theorem uG {U V:Int} (h:U≠V):Lit.int .i64 U≠Lit.int .i64 V:=fun e=>h (by injection e)
theorem JH (base:Nat) (w:World):gG base (w.alloc (.map #[] 0)) w.heap.size []:=
 ⟨0,fun _=>none,by simp,Bc w _ _,fun U=>.inl ⟨rfl,by simp⟩,fun U V g h=>by cases h⟩
theorem gG.keep {base mb:Nat} {w w':World} {us:List (gM×Int)} (h:gG base w mb us) (hs:w.heap.size≤w'.heap.size) (hb:∀b,(b=mb∨base≤b)→b<w.heap.size→w'.heap[b]?=w.heap[b]?):gG base w' mb us:=by
 obtain ⟨n,f,h1,h2,h3,h4⟩:=h;refine ⟨n,f,h1,h2.same (hb _ (.inl rfl) h2.lt),fun U=>?_,h4⟩;rcases h3 U with h | ⟨g,e1,e2,e3,e4,e5⟩
 ·exact .inl h
 ·exact .inr ⟨g,e1,e2,e3,by omega,e5.same (hb g (.inr e2) e4)⟩
theorem gG.below {base mb:Nat} {w w':World} {us:List (gM×Int)} (h:gG base w mb us) (hb:Below w.heap.size w w'):gG base w' mb us:=h.keep hb.size (fun b _ hl=>hb.block b hl)
theorem gG.alloc {base mb:Nat} {w:World} {us:List (gM×Int)} (h:gG base w mb us) (o:Obj):gG base (w.alloc o) mb us:=h.below ((Below.refl _ _).alloc (Nat.le_refl _) o)
theorem gG.drewN {base mb:Nat} {w:World} {us:List (gM×Int)} (h:gG base w mb us) (n:Nat):gG base (w.drewN n) mb us:=h.keep (Nat.le_refl _) (fun _ _ _=>rfl)
theorem gG.lt {base mb:Nat} {w:World} {us:List (gM×Int)} (h:gG base w mb us):mb<w.heap.size:=by
 obtain ⟨n,f,h1,h2,_⟩:=h;exact h2.lt
def mP (m:Int→Bool) (a k:Int):Int→Bool:=fun j=>m j||(decide (a≤j)&&decide (j<k))
theorem wZ (m:Int→Bool) (a j:Int):mP m a a j=m j:=by
 unfold mP;by_cases h1:a≤j
 ·have:¬j<a:=by omega
  simp [h1,this]
 ·simp [h1]
theorem gG.Og {base mb g:Nat} {w w':World} {us:List (gM×Int)} {u:gM} {s:Int} {n:Nat} {f:Lit→Option Value} (hn:n≤us.length) (hM:jA w Tryz.prog 3 mb n f) (hU:∀U,Fv base w mb us f U)
  (hI:∀U V g,f (.int .i64 U)=some (oP g)→f (.int .i64 V)=some (oP g)→U=V) (hf:f (.int .i64 u.univ)=some (oP g)) (hsz:w.heap.size≤w'.heap.size) (hg:g≠mb) (hbg:base≤g) (hgl:g<w'.heap.size) (hb:∀b,b≠g→b<w.heap.size→w'.heap[b]?=w.heap[b]?)
  (hS:fD w' g (mP (jO us u.univ) u.addr (u.addr+s))):gG base w' mb (us++[(u,s)]):=by
 refine ⟨n,f,by simp;omega,hM.same (hb mb (Ne.symm hg) hM.lt),fun U=>?_,hI⟩;by_cases c:U=u.univ
 ·subst c;exact .inr ⟨g,hf,hbg,hg,hgl,hS.cast (fun j=>xU us u s j)⟩
 ·rcases hU U with ⟨h1,h2⟩ | ⟨g',e1,e2,e3,e4,e5⟩
  ·refine .inl ⟨h1,fun x hx=>?_⟩;simp only [List.mem_append,List.mem_singleton] at hx;rcases hx with hx | rfl
   ·exact h2 x hx
   ·exact fun e=>c e.symm
  ·have hgg:g'≠g:=fun e=>c (hI U u.univ g (by rw [e1,e]) hf);exact .inr ⟨g',e1,e2,e3,by omega,(e5.same (hb g' hgg e4)).cast (fun j=>wR us u s U j (fun e=>c e.symm))⟩
theorem gG.Oh {base mb g:Nat} {w w':World} {us:List (gM×Int)} {u:gM} {s:Int} {n:Nat} {f:Lit→Option Value} (hn:n≤us.length) (hU:∀U,Fv base w mb us f U)
  (hI:∀U V g,f (.int .i64 U)=some (oP g)→f (.int .i64 V)=some (oP g)→U=V) (hf:f (.int .i64 u.univ)=none) (hsz:w.heap.size≤w'.heap.size) (hg:g≠mb) (hbg:base≤g) (hnew:w.heap.size≤g) (hgl:g<w'.heap.size) (hb:∀b,b≠mb→b<w.heap.size→w'.heap[b]?=w.heap[b]?)
  (hM:jA w' Tryz.prog 3 mb (n+1) (Kn f (.int .i64 u.univ) (oP g))) (hS:fD w' g (mP (fun _=>false) u.addr (u.addr+s))):gG base w' mb (us++[(u,s)]):=by
 have hno:∀x∈us,x.1.univ≠u.univ:=by
  rcases hU u.univ with ⟨_,h2⟩ | ⟨g',e1,_⟩
  ·exact h2
  ·rw [hf] at e1;cases e1
 refine ⟨n+1,_,by simp;omega,hM,fun U=>?_,fun U V g1 h1 h2=>?_⟩
 ·by_cases c:U=u.univ
  ·subst c;refine .inr ⟨g,mE (uJ _),hbg,hg,hgl,hS.cast (fun j=>?_)⟩;rw [xU us u s j,Gh us _ j hno];rfl
  ·rcases hU U with ⟨h1,h2⟩ | ⟨g',e1,e2,e3,e4,e5⟩
   ·refine .inl ⟨(jI (uG c)).trans h1,fun x hx=>?_⟩;simp only [List.mem_append,List.mem_singleton] at hx;rcases hx with hx | rfl
    ·exact h2 x hx
    ·exact fun e=>c e.symm
   ·exact .inr ⟨g',(jI (uG c)).trans e1,e2,e3,by omega,(e5.same (hb g' e3 e4)).cast (fun j=>wR us u s U j (fun e=>c e.symm))⟩
 ·have old:∀U,f (.int .i64 U)=some (oP g1)→g1<w.heap.size:=fun U h=>by
   rcases hU U with ⟨h1,_⟩ | ⟨g',e1,_,_,e4,_⟩
   ·rw [h] at h1;cases h1
   ·rw [h] at e1;have:=yK (Option.some.inj e1);omega
  by_cases c:U=u.univ
  ·by_cases d:V=u.univ
   ·rw [c,d]
   ·rw [jI (uG d)] at h2;rw [c,mE (uJ _)] at h1;have:=yK (Option.some.inj h1);have:=old V h2;omega
  ·rw [jI (uG c)] at h1;by_cases d:V=u.univ
   ·rw [d,mE (uJ _)] at h2;have:=yK (Option.some.inj h2);have:=old U h1;omega
   ·rw [jI (uG d)] at h2;exact hI U V g1 h1 h2
theorem fD.mark {w:World} {g:Nat} {m:Int→Bool} {a:Int} {k:Nat} (h:fD w g (mP m a k)) (ha:a≤k):fD (w.setCell ⟨g,k,none⟩ (.bool true)) g (mP m a ((k+1:Nat):Int)):=by
 intro j hj;obtain ⟨h1,h2⟩:=h j hj;by_cases c:j=k
 ·subst c;refine ⟨?_,(World.frozen?_setCell _ _ _ _).trans h2⟩;rw [World.cell?_setCell_same _ _ _ h1]
  have:mP m a ((j+1:Nat):Int) (j:Int)=true:=by
   unfold mP;have e1:decide (a≤(j:Int))=true:=by simpa using ha
   have e2:decide ((j:Int)<((j+1:Nat):Int))=true:=by simp;omega
   rw [e1,e2];simp
  rw [this]
 ·refine ⟨?_,(World.frozen?_setCell _ _ _ _).trans h2⟩;rw [World.cell?_setCell_other _ _ _ _ (by intro e;injection e with _ e;exact c e.symm)];rw [h1]
  have:mP m a ((k+1:Nat):Int) (j:Int)=mP m a (k:Int) (j:Int):=by
   unfold mP;congr 2
   simp only [decide_eq_decide];omega
  rw [this]
def sW (lib:List Prf) (l:List gM):List (gM×Int):=l.map (fun u=>(u,sizeOf' lib u))
theorem JI (lib:List Prf) (l:List gM) (k:Nat) (h:k<l.length):sW lib (l.take (k+1))=sW lib (l.take k)++[(l[k],sizeOf' lib l[k])]:=by
 unfold sW;rw [List.take_succ_eq_append_getElem h,List.map_append];rfl
theorem rQ {lib:List Prf} {u:gM} {p:Prf} (h:cB lib u.nm=some p):sizeOf' lib u=p.size:=by simp [sizeOf',h]
theorem size_pos {lib:List Prf} (hl:eu lib=0) {u:gM} {p:Prf} (h:cB lib u.nm=some p):1≤p.size∧p.size≤512:=(nI (pq hl (lC h).1)).2.1
theorem Il {lib:List Prf} (hl:eu lib=0) (pre:List gM) (hp:∀x∈pre,∃p,cB lib x.nm=some p) (u:gM) (p:Prf) (hu:cB lib u.nm=some p) (hb:iP u p.size=false) :
  pre.any (jK lib u)=!lH (jO (sW lib pre) u.univ) u.addr p.size.toNat:=by
 obtain ⟨b1,b2,b3⟩:=jX hb;have hs:=size_pos hl hu;have hsu:=rQ hu
 have key:pre.any (jK lib u)=true↔¬lH (jO (sW lib pre) u.univ) u.addr p.size.toNat=true:=by
  rw [Lu,List.any_eq_true];constructor
  ·rintro ⟨x,hx,hc⟩ hf;obtain ⟨q,hq⟩:=hp x hx;have hsq:=size_pos hl hq;have hsx:=rQ hq;simp only [jK,lastOf,hsu,hsx,Bool.and_eq_true,decide_eq_true_eq] at hc;obtain ⟨⟨c1,c2⟩,c3⟩:=hc
   obtain ⟨m,hm1,hm2,hm3,hm4⟩:∃m:Int,u.addr≤m∧m<u.addr+p.size∧x.addr≤m∧m<x.addr+q.size:=by
    by_cases c:u.addr≤x.addr
    ·exact ⟨x.addr,c,by omega,by omega,by omega⟩
    ·exact ⟨u.addr,by omega,by omega,by omega,by omega⟩
   have:=(hf m hm1 (by omega)).2
   have:jO (sW lib pre) u.univ m=true:=by
    unfold jO;rw [List.any_eq_true];exact ⟨(x,sizeOf' lib x),List.mem_map.2 ⟨x,hx,rfl⟩,by simp only [hsx,Bool.and_eq_true,decide_eq_true_eq];exact ⟨c1,hm3,hm4⟩⟩
   simp_all
  ·intro hf;by_cases c:∃x∈pre,jK lib u x=true
   ·exact c
   ·refine absurd (fun m h1 h2=>⟨by omega,?_⟩) hf;unfold jO;rw [List.any_eq_false];intro y hy;obtain ⟨x,hx,rfl⟩:=List.mem_map.1 hy;obtain ⟨q,hq⟩:=hp x hx;have hsx:=rQ hq;intro hcon;simp only [hsx,Bool.and_eq_true,decide_eq_true_eq] at hcon;obtain ⟨c1,c2,c3⟩:=hcon;refine c ⟨x,hx,?_⟩;simp only [jK,lastOf,hsu,hsx,Bool.and_eq_true,decide_eq_true_eq];exact ⟨⟨c1,by omega⟩,by omega⟩
 cases h:lH (jO (sW lib pre) u.univ) u.addr p.size.toNat<;>simp_all
theorem Ik {lib:List Prf} (pre:List gM) (u:gM) (h:∀x∈sW lib pre,x.1.univ≠u.univ):pre.any (jK lib u)=false:=by
 rw [List.any_eq_false];intro x hx;have:=h (x,sizeOf' lib x) (List.mem_map.2 ⟨x,hx,rfl⟩);simp [jK,this]
theorem Kt {lib:List Prf} {aD:List gM} {k:Nat} (hk:k≤aD.length) (h:∀j (hj:j<aD.length),j<k→jm lib (aD.take j) aD[j]=0):∀x∈aD.take k,∃p,cB lib x.nm=some p:=by
 intro x hx;obtain ⟨j,hj,rfl⟩:=List.getElem_of_mem hx;rw [List.length_take] at hj;have h1:=h j (by omega) (by omega);obtain ⟨_,_,⟨p,hp,_⟩,_⟩:=mq h1;exact ⟨p,by rw [List.getElem_take];exact hp⟩
theorem gJ {B:Nat} {w:World} {v:Value} {l:List ji} (h:jy B w v l):∃ao cap,v=.slice ao l.length cap:=by
 obtain ⟨lv,hlv,hcs,_⟩:=h;obtain ⟨ao,cap,rfl,_⟩:=aW.shape hcs;exact ⟨ao,cap,by rw [←hlv];simp⟩
theorem iq {B:Nat} {w:World} {v:Value} {l:List Prf} (h:jq B w v l):∃ao cap,v=.slice ao l.length cap:=by
 obtain ⟨lv,hlv,hcs,_⟩:=h;obtain ⟨ao,cap,rfl,_⟩:=aW.shape hcs;exact ⟨ao,cap,by rw [←hlv];simp⟩
theorem Nl (lib:List Prf) (l:List gM):(sW lib l).length=l.length:=by simp [sW]
def fH {α:Type} (t:α→Bool):List α→Nat→Int
 | [],_=>-1
 | x::l,i=>if t x then (i:Int) else fH t l (i+1)
theorem Bf {α:Type} (t:α→Bool) (l:List α) (k:Nat) (h:k<l.length):fH t (l.drop k) k=if t l[k] then (k:Int) else fH t (l.drop (k+1)) (k+1):=by
 rw [List.drop_eq_getElem_cons h];rfl
theorem oo {α:Type} (t:α→Bool) (l:List α) (k:Nat) (h:k<l.length) (ht:t l[k]=true):fH t (l.drop k) k=(k:Int):=by rw [Bf t l k h,ht];rfl
theorem rX {α:Type} (t:α→Bool) (l:List α) (k:Nat) (h:k<l.length) (ht:t l[k]=false):fH t (l.drop k) k=fH t (l.drop (k+1)) (k+1):=by rw [Bf t l k h,ht];rfl
theorem oq {α:Type} (t:α→Bool) (l:List α) (k:Nat) (h:l.length≤k):fH t (l.drop k) k=-1:=by rw [List.drop_of_length_le h];rfl
theorem K7 {α:Type} (t:α→Bool) (l:List α):∀i:Nat,(fH t l i=-1∧l.find? t=none)∨∃(k:Nat) (h:k<l.length),fH t l i=((i+k:Nat):Int)∧l.find? t=some l[k]:=by
 induction l with
 | nil=>intro i;exact .inl ⟨rfl,rfl⟩
 | cons x l ih=>
  intro i;cases hx:t x
  ·rcases ih (i+1) with ⟨h1,h2⟩ | ⟨k,hk,h1,h2⟩
   ·exact .inl ⟨by simp only [fH,hx];simpa using h1,by rw [List.find?_cons,hx];exact h2⟩
   ·refine .inr ⟨k+1,by simpa using hk,?_,by rw [List.find?_cons,hx];simpa using h2⟩;simp only [fH,hx];rw [show i+(k+1)=i+1+k by omega];simpa using h1
  ·exact .inr ⟨0,by simp,by simp [fH,hx],by simp [hx]⟩
theorem kW {α:Type} (t:α→Bool) (l:List α):(fH t l 0=-1∧l.find? t=none)∨∃(k:Nat) (h:k<l.length),fH t l 0=(k:Int)∧l.find? t=some l[k]:=by
 rcases K7 t l 0 with h | ⟨k,hk,h1,h2⟩
 ·exact .inl h
 ·exact .inr ⟨k,hk,by simpa using h1,h2⟩
end Go.Proofs.YtopmdeefcjdadaaGreat
