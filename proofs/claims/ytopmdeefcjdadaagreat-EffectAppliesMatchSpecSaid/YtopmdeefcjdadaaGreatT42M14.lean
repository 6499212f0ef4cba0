import Derived.Test.YtopmdeefcjdadaaGreatT42M00
import Derived.Test.YtopmdeefcjdadaaGreatT42M10
import Derived.Test.YtopmdeefcjdadaaGreatT42M01
import Derived.BigRegion
set_option linter.unusedVariables false
set_option linter.unusedSimpArgs false
set_option maxRecDepth 100000
set_option maxHeartbeats 32000000
namespace Go.Proofs.YtopmdeefcjdadaaGreat
open Go.RowKit
instance decBytes:DecidableEq ByteArray:=fun a b=>if h:a.data=b.data then isTrue (ByteArray.ext h) else isFalse (fun e=>h (by rw [e]))
def dM.k (s:dM):Int×ByteArray:=(s.unit,s.par)
def isK (k:Int×ByteArray) (s:dM):Bool:=decide (s.k=k)
def qX (x:iK) (pre:List dM) (s:dM):Int:=
 if (gL x s.unit s.par.data.toList).isNone then 8 else if !bW s.lv 0 65535 then 1 else if pre.any (isK s.k) then 6 else 0
def dF (x:iK) (l:List dM):Int:=bQ (qX x) l 0
theorem Ad {s:dM} (h:sJ s):jE s.k:=⟨h.1,h.2.1⟩
end Go.Proofs.YtopmdeefcjdadaaGreat
namespace Go.Proofs.YtopmdeefcjdadaaGreat
def jS:Int:=18446744073709551616
theorem lI:0<jS:=by unfold jS;decide
theorem nW (x:Int):jA x+jS*iZ x=x:=by unfold jA iZ jS;omega
theorem fG (x:Int):0≤jA x∧jA x<jS:=by unfold jA jS;omega
theorem mW {x:Int} (h:0≤x):0≤iZ x:=by unfold iZ;omega
theorem lS (x:Int):fq x↔0≤x∧x<jS:=Iff.rfl
def bB:List Int→Int
 | []=>0
 | a::l=>a+jS*bB l
def bE:Nat→Int
 | 0=>1
 | n+1=>jS*bE n
def Words (l:List Int):Prop:=∀x∈l,fq x
theorem Words.head {x:Int} {l:List Int} (h:Words (x::l)):fq x:=h x (by simp)
theorem Words.tail {x:Int} {l:List Int} (h:Words (x::l)):Words l:=fun y hy=>h y (by simp [hy])
theorem kW {x:Int} {l:List Int} (h:fq x) (k:Words l):Words (x::l):=fun y hy=>by
 rcases List.mem_cons.1 hy with rfl | hy
 ·exact h
 ·exact k y hy
theorem mX:∀l:List Int,Words l→0≤bB l∧bB l<bE l.length
 | [],_=>by simp [bB,bE]
 | x::l,h=>by
  obtain ⟨h1,h2⟩:=mX l h.tail;obtain ⟨x0,x1⟩:=(lS x).1 h.head;simp only [bB,bE,List.length_cons];have a1:0≤jS*bB l:=Int.mul_nonneg (Int.le_of_lt lI) h1;have a2:jS*(bB l+1)≤jS*bE l.length:=Int.mul_le_mul_of_nonneg_left (by omega) (Int.le_of_lt lI);rw [Int.mul_add,Int.mul_one] at a2;omega
theorem nX {a p:Int} (h:jS*a<jS*p):a<p:=Int.lt_of_mul_lt_mul_left h (Int.le_of_lt lI)
def kY (n:Int):List Int→Int→List Int
 | [],_=>[]
 | x::l,c=>jA (x*n+c)::kY n l (iZ (x*n+c))
theorem zi (n:Int):∀l c,(kY n l c).length=l.length
 | [],_=>rfl
 | x::l,c=>by simp [kY,zi n l]
theorem uX (n:Int):∀l c,Words (kY n l c)
 | [],_=>by simp [kY,Words]
 | x::l,c=>kW (fG _) (uX n l _)
theorem zh {n:Int} (hn:0≤n):∀l c,0≤c→Words l→bB l*n+c<bE l.length→bB (kY n l c)=bB l*n+c
 | [],c,hc,_,h=>by simp [bB,bE,kY] at *;omega
 | x::l,c,hc,hw,h=>by
  have hs:0≤x*n+c:=Int.add_nonneg (Int.mul_nonneg hw.head.1 hn) hc
  have e:bB (x::l)*n+c=jA (x*n+c)+jS*(bB l*n+iZ (x*n+c)):=by
   have:=nW (x*n+c);simp only [bB];have e1:(x+jS*bB l)*n=x*n+jS*(bB l*n):=by rw [Int.add_mul,Int.mul_assoc]
   rw [e1,Int.mul_add];omega
  rw [e] at h ⊢;simp only [List.length_cons,bE] at h;have:=(fG (x*n+c)).1;have h2:bB l*n+iZ (x*n+c)<bE l.length:=nX (by omega);rw [kY,bB,zh hn l _ (mW hs) hw.tail h2]
theorem qF {x y c:Int} (hx:fq x) (hy:fq y) (hc:fq c):fq (iZ (x*y+c)):=by
 rw [lS] at *;have hp:0≤x*y:=Int.mul_nonneg hx.1 hy.1;refine ⟨mW (by omega),?_⟩;have h1:x*y≤(jS-1)*(jS-1):=Int.le_trans (Int.mul_le_mul_of_nonneg_right (by omega) hy.1) (Int.mul_le_mul_of_nonneg_left (by omega) (by omega));have h2:(jS-1)*(jS-1)+(jS-1)=jS*(jS-1):=by have:=Int.sub_mul jS 1 (jS-1);omega
 have h3:=nW (x*y+c);have h4:=(fG (x*y+c)).1;have h5:jS*iZ (x*y+c)<jS*jS:=by have h6:=Int.mul_sub jS jS 1;have:=lI;omega
 exact nX h5
theorem sG {o x y c:Int} (ho:fq o) (hx:fq x) (hy:fq y) (hc:fq c):fq (iZ (o+x*y+c)):=by
 rw [lS] at *;have hp:0≤x*y:=Int.mul_nonneg hx.1 hy.1;refine ⟨mW (by omega),?_⟩;have h1:x*y≤(jS-1)*(jS-1):=Int.le_trans (Int.mul_le_mul_of_nonneg_right (by omega) hy.1) (Int.mul_le_mul_of_nonneg_left (by omega) (by omega));have h2:(jS-1)+(jS-1)*(jS-1)+(jS-1)=jS*jS-1:=by have:=Int.sub_mul jS 1 (jS-1);have:=Int.mul_sub jS jS 1;omega
 have h3:=nW (o+x*y+c);have h4:=(fG (o+x*y+c)).1;exact nX (by omega)
def lQ:List Int→List Int→Int→List Int
 | x::l,y::m,c=>jA (x+y+c)::lQ l m (iZ (x+y+c))
 | _,_,_=>[]
theorem yc:∀l m c,Words (lQ l m c)
 | x::l,y::m,c=>kW (fG _) (yc l m _)
 | [],_,_=>by simp [lQ,Words]
 | _::_,[],_=>by simp [lQ,Words]
theorem BU:∀l m c,l.length=m.length→(lQ l m c).length=l.length
 | x::l,y::m,c,h=>by simp [lQ,BU l m _ (by simpa using h)]
 | [],_,_,_=>by simp [lQ]
 | _::_,[],_,h=>by simp at h
theorem BS:∀l m c,l.length=m.length→0≤c→Words l→Words m→bB l+bB m+c<bE l.length→bB (lQ l m c)=bB l+bB m+c
 | [],[],c,_,hc,_,_,h=>by simp [bB,bE,lQ] at *;omega
 | x::l,y::m,c,hlm,hc,hw,hv,h=>by
  have hs:0≤x+y+c:=by have:=hw.head.1;have:=hv.head.1;omega
  have e:bB (x::l)+bB (y::m)+c=jA (x+y+c)+jS*(bB l+bB m+iZ (x+y+c)):=by
   have:=nW (x+y+c);simp only [bB];rw [Int.mul_add,Int.mul_add];omega
  rw [e] at h ⊢;simp only [List.length_cons,bE] at h;have:=(fG (x+y+c)).1;have h2:bB l+bB m+iZ (x+y+c)<bE l.length:=nX (by omega);rw [lQ,bB,BS l m _ (by simpa using hlm) (mW hs) hw.tail hv.tail h2]
 | [],_::_,_,h,_,_,_,_=>by simp at h
 | _::_,[],_,h,_,_,_,_=>by simp at h
def jf:List Int→List Int→Int→List Int
 | x::l,y::m,c=>jA (x-y-c)::jf l m (-iZ (x-y-c))
 | _,_,_=>[]
theorem vB:∀l m c,Words (jf l m c)
 | x::l,y::m,c=>kW (fG _) (vB l m _)
 | [],_,_=>by simp [jf,Words]
 | _::_,[],_=>by simp [jf,Words]
theorem zX:∀l m c,l.length=m.length→(jf l m c).length=l.length
 | x::l,y::m,c,h=>by simp [jf,zX l m _ (by simpa using h)]
 | [],_,_,_=>by simp [jf]
 | _::_,[],_,h=>by simp at h
theorem zW:∀l m c,l.length=m.length→Words l→Words m→0≤bB l-bB m-c→bB l-bB m-c<bE l.length→bB (jf l m c)=bB l-bB m-c
 | [],[],c,_,_,_,h,h'=>by simp [bB,jf,bE] at *;omega
 | x::l,y::m,c,hlm,hw,hv,h,h'=>by
  have e:bB (x::l)-bB (y::m)-c=jA (x-y-c)+jS*(bB l-bB m - -iZ (x-y-c)):=by
   have:=nW (x-y-c);simp only [bB];rw [Int.mul_sub,Int.mul_sub,Int.mul_neg];omega
  rw [e] at h h' ⊢;simp only [List.length_cons,bE] at h';have:=fG (x-y-c)
  have h2:0≤bB l-bB m - -iZ (x-y-c):=by
   by_cases k:0≤bB l-bB m - -iZ (x-y-c)
   ·exact k
   ·have h3:jS*(bB l-bB m - -iZ (x-y-c))≤jS*(-1):=Int.mul_le_mul_of_nonneg_left (by omega) (Int.le_of_lt lI);omega
  have h4:bB l-bB m - -iZ (x-y-c)<bE l.length:=nX (by omega);rw [jf,bB,zW l m _ (by simpa using hlm) hw.tail hv.tail h2 h4]
 | [],_::_,_,h,_,_,_,_=>by simp at h
 | _::_,[],_,h,_,_,_,_=>by simp at h
theorem MS {l m s:List Int} (hlm:l.length=m.length):bB (l++s)<bB (m++s)↔bB l<bB m:=by
 induction l generalizing m with
 | nil=>
  obtain rfl:m=[]:=List.eq_nil_of_length_eq_zero (by simpa using hlm.symm);simp
 | cons x l ih=>
  match m,hlm with
  | y::m,h=>
   have key:∀l m:List Int,l.length=m.length→bB (l++s)-bB (m++s)=bB l-bB m:=by
    intro l
    induction l with
    | nil=>
     intro m h;obtain rfl:m=[]:=List.eq_nil_of_length_eq_zero (by simpa using h.symm);simp [bB]
    | cons x l ih=>
     intro m h
     match m,h with
     | y::m,h=>
      have:=ih m (by simpa using h);simp only [List.cons_append,bB];have e1:jS*bB (l++s)-jS*bB (m++s)=jS*bB l-jS*bB m:=by rw [←Int.mul_sub,←Int.mul_sub,this]
      omega
   have:=key (x::l) (y::m) h;omega
theorem less_at {l m s:List Int} {x y:Int} (hlm:l.length=m.length) (hl:Words l) (hm:Words m) (hxy:x≠y):(bB (l++x::s)<bB (m++y::s))↔x<y:=by
 have e1:l++x::s=(l++[x])++s:=by simp
 have e2:m++y::s=(m++[y])++s:=by simp
 rw [e1,e2,MS (by simp [hlm])];clear e1 e2
 have key:∀l m:List Int,l.length=m.length→Words l→Words m→(bB (l++[x])<bB (m++[y])↔x<y):=by
  intro l
  induction l with
  | nil=>
   intro m h _ _;obtain rfl:m=[]:=List.eq_nil_of_length_eq_zero (by simpa using h.symm);simp [bB]
  | cons a l ih=>
   intro m h hl hm
   match m,h,hm with
   | b::m,h,hm=>
    have:=ih m (by simpa using h) hl.tail hm.tail;obtain ⟨x0,x1⟩:=(lS a).1 hl.head;obtain ⟨y0,y1⟩:=(lS b).1 hm.head;simp only [List.cons_append,bB];rw [←this];constructor
    ·intro hq;by_cases c:bB (l++[x])<bB (m++[y])
     ·exact c
     ·exfalso;by_cases d:bB (l++[x])=bB (m++[y])
      ·have key2:∀l m:List Int,l.length=m.length→Words l→Words m→bB (l++[x])=bB (m++[y])→x=y:=by
        intro l
        induction l with
        | nil=>
         intro m h _ _ e;obtain rfl:m=[]:=List.eq_nil_of_length_eq_zero (by simpa using h.symm);simpa [bB] using e
        | cons a l ih=>
         intro m h hl hm e
         match m,h,hm with
         | b::m,h,hm=>
          obtain ⟨x0,x1⟩:=(lS a).1 hl.head;obtain ⟨y0,y1⟩:=(lS b).1 hm.head;simp only [List.cons_append,bB] at e;refine ih m (by simpa using h) hl.tail hm.tail ?_;rcases Int.lt_trichotomy (bB (l++[x])) (bB (m++[y])) with c | c | c
          ·have:=Int.mul_le_mul_of_nonneg_left (show bB (l++[x])+1≤bB (m++[y]) by omega) (Int.le_of_lt lI);rw [Int.mul_add,Int.mul_one] at this;omega
          ·exact c
          ·have:=Int.mul_le_mul_of_nonneg_left (show bB (m++[y])+1≤bB (l++[x]) by omega) (Int.le_of_lt lI);rw [Int.mul_add,Int.mul_one] at this;omega
       exact hxy (key2 l m (by simpa using h) hl.tail hm.tail d)
      ·have:=Int.mul_le_mul_of_nonneg_left (show bB (m++[y])+1≤bB (l++[x]) by omega) (Int.le_of_lt lI);rw [Int.mul_add,Int.mul_one] at this;omega
    ·intro c;have:=Int.mul_le_mul_of_nonneg_left (show bB (l++[x])+1≤bB (m++[y]) by omega) (Int.le_of_lt lI);rw [Int.mul_add,Int.mul_one] at this;omega
 exact key l m hlm hl hm
def mF (y:Int):List Int→List Int→Int→List Int
 | o::os,x::l,c=>jA (o+x*y+c)::mF y os l (iZ (o+x*y+c))
 | os,_,_=>os
theorem pX (y:Int):∀os l c,Words os→Words (mF y os l c)
 | o::os,x::l,c,h=>kW (fG _) (pX y os l _ h.tail)
 | [],_,_,h=>by simp [mF,Words]
 | _::_,[],_,h=>by simpa [mF] using h
theorem vg (y:Int):∀os l c,(mF y os l c).length=os.length
 | o::os,x::l,c=>by simp [mF,vg y os l]
 | [],_,_=>by simp [mF]
 | _::_,[],_=>by simp [mF]
theorem E8 {y:Int} (hy:0≤y):∀os l c,os.length≤l.length→0≤c→Words os→Words l→bB os+bB l*y+c<bE os.length→bB (mF y os l c)=bB os+bB l*y+c
 | [],l,c,_,hc,_,hl,h=>by
  have:=Int.mul_nonneg (mX l hl).1 hy;have e:bB (mF y [] l c)=0:=by cases l<;>simp [mF,bB]
  rw [e];simp only [bB,bE,List.length_nil] at h ⊢;omega
 | o::os,x::l,c,hlm,hc,hw,hv,h=>by
  have hs:0≤o+x*y+c:=by have:=hw.head.1;have:=Int.mul_nonneg hv.head.1 hy;omega
  have e:bB (o::os)+bB (x::l)*y+c=jA (o+x*y+c)+jS*(bB os+bB l*y+iZ (o+x*y+c)):=by
   have:=nW (o+x*y+c);simp only [bB];have e1:(x+jS*bB l)*y=x*y+jS*(bB l*y):=by rw [Int.add_mul,Int.mul_assoc]
   rw [e1,Int.mul_add,Int.mul_add];omega
  rw [e] at h ⊢;simp only [List.length_cons,bE] at h;have:=(fG (o+x*y+c)).1;have h2:bB os+bB l*y+iZ (o+x*y+c)<bE os.length:=nX (by omega);rw [mF,bB,E8 hy os l _ (by simpa using hlm) (mW hs) hw.tail hv.tail h2]
 | _::_,[],_,h,_,_,_,_=>by simp at h
def mulL (l:List Int):List Int→List Int→List Int
 | [],out=>out
 | y::m,out=>match mF y out l 0 with
  | []=>[]
  | o::os=>o::mulL l m os
theorem zV (l:List Int):∀m out,Words out→Words (mulL l m out)
 | [],out,h=>h
 | y::m,out,h=>by
  have h1:=pX y out l 0 h;unfold mulL
  cases hr:mF y out l 0 with
  | nil=>simp [Words]
  | cons o os=>
   rw [hr] at h1;exact kW h1.head (zV l m os h1.tail)
theorem FV (l:List Int):∀m out,(mulL l m out).length=out.length
 | [],out=>rfl
 | y::m,out=>by
  have h1:=vg y out l 0;unfold mulL
  cases hr:mF y out l 0 with
  | nil=>rw [hr] at h1;simpa using h1
  | cons o os=>
   rw [hr] at h1;simp only [List.length_cons,FV l m os];simpa using h1
theorem FU {l:List Int} (hl:Words l):∀m out,out.length=m.length→m.length≤l.length→Words m→Words out→bB out+bB l*bB m<bE out.length→bB (mulL l m out)=bB out+bB l*bB m
 | [],out,h0,_,_,_,h=>by
  obtain rfl:out=[]:=List.eq_nil_of_length_eq_zero (by simpa using h0);simp [mulL,bB]
 | y::m,out,h0,h1,hm,ho,h=>by
  have hy:=hm.head.1;have a0:=(mX l hl).1;have a1:=(mX m hm.tail).1
  have e:bB l*bB (y::m)=bB l*y+jS*(bB l*bB m):=by
   simp only [bB];rw [Int.mul_add,←Int.mul_assoc,←Int.mul_assoc,Int.mul_comm jS]
  have a2:0≤bB l*bB m:=Int.mul_nonneg a0 a1;have a3:0≤jS*(bB l*bB m):=Int.mul_nonneg (Int.le_of_lt lI) a2;have hr:=E8 hy out l 0 (by rw [h0];exact h1) (Int.le_refl _) ho hl (by rw [e] at h;omega);have hrl:=vg y out l 0;have hrw:=pX y out l 0 ho;unfold mulL
  cases hc:mF y out l 0 with
  | nil=>rw [hc,h0] at hrl;simp at hrl
  | cons o os=>
   rw [hc] at hr hrl hrw;rw [e];simp only [bB,Int.add_zero] at hr ⊢;have hol:os.length=m.length:=by simp at hrl h0;omega
   have hb:bB os+bB l*bB m<bE os.length:=by
    rw [e] at h;have e2:bE out.length=jS*bE os.length:=by rw [←hrl];rfl
    rw [e2] at h;refine nX ?_;rw [Int.mul_add];have:=hrw.head.1;omega
   rw [FU hl m os hol (by simp at h1;omega) hm.tail hrw.tail hb,Int.mul_add];omega
end Go.Proofs.YtopmdeefcjdadaaGreat
namespace Go.Proofs.YtopmdeefcjdadaaGreat
open Go.RowKit
def dD (l:List Int):Array Value:=(l.map (fun x=>Value.int .u64 x)).toArray
def limbs:Nat→Int→List Int
 | 0,_=>[]
 | n+1,x=>jA x::limbs n (iZ x)
theorem iP:∀n x,(limbs n x).length=n
 | 0,_=>rfl
 | n+1,x=>by simp [limbs,iP n]
theorem fM:∀n x,Words (limbs n x)
 | 0,_=>by simp [limbs,Words]
 | n+1,x=>kW (fG _) (fM n _)
theorem iO:∀n x,0≤x→x<bE n→bB (limbs n x)=x
 | 0,x,h0,h1=>by simp [bE] at h1;simp [limbs,bB];omega
 | n+1,x,h0,h1=>by
  have hs:=nW x;have h2:iZ x<bE n:=nX (by have:=(fG x).1;simp only [bE] at h1;omega);rw [limbs,bB,iO n _ (mW h0) h2,hs]
theorem F5:∀l:List Int,Words l→limbs l.length (bB l)=l
 | [],_=>rfl
 | a::l,h=>by
  obtain ⟨h0,h1⟩:=(lS a).1 h.head;have hs:=nW (a+jS*bB l);have hr:=fG (a+jS*bB l);have hv:=(mX l h.tail).1;have e2:iZ (a+jS*bB l)=bB l:=by unfold iZ jS at *;omega
  have e1:jA (a+jS*bB l)=a:=by rw [e2] at hs;omega
  rw [List.length_cons,limbs,bB,e1,e2,F5 l h.tail]
def iq (N:Int):Value:=.agg (dD (limbs 6 N))
theorem six {α:Type} {l:List α} (h:l.length=6):∃a b c d e f,l=[a,b,c,d,e,f]:=by
 match l,h with
 | [a,b,c,d,e,f],_=>exact ⟨a,b,c,d,e,f,rfl⟩
theorem vI {l:List Int} (h:l.length=6) (hw:Words l):iq (bB l)=.agg (dD l):=by
 unfold iq;rw [←h,F5 l hw]
theorem jv {l:List Int} {i:Nat} (h:i<l.length):(dD l)[i]?=some (.int .u64 l[i]):=by simp [dD,h]
theorem tC (l:List Int) (i:Nat) (v:Int):(dD l).setIfInBounds i (.int .u64 v)=dD (l.set i v):=by simp [dD,List.map_set]
theorem Qk (a b c d e f:Int) (w:World):(Instr.index 88 (.agg #[.int .u64 a,.int .u64 b,.int .u64 c,.int .u64 d,.int .u64 e,.int .u64 f]) (.int .i64 0)).run Tryz.prog w=.ok (.int .u64 a) w:=by kernel_rfl
theorem Qj (a b c d e f:Int) (w:World):(Instr.index 88 (.agg #[.int .u64 a,.int .u64 b,.int .u64 c,.int .u64 d,.int .u64 e,.int .u64 f]) (.int .i64 1)).run Tryz.prog w=.ok (.int .u64 b) w:=by kernel_rfl
theorem Qi (a b c d e f:Int) (w:World):(Instr.index 88 (.agg #[.int .u64 a,.int .u64 b,.int .u64 c,.int .u64 d,.int .u64 e,.int .u64 f]) (.int .i64 2)).run Tryz.prog w=.ok (.int .u64 c) w:=by kernel_rfl
theorem Qh (a b c d e f:Int) (w:World):(Instr.index 88 (.agg #[.int .u64 a,.int .u64 b,.int .u64 c,.int .u64 d,.int .u64 e,.int .u64 f]) (.int .i64 3)).run Tryz.prog w=.ok (.int .u64 d) w:=by kernel_rfl
theorem Qg (a b c d e f:Int) (w:World):(Instr.index 88 (.agg #[.int .u64 a,.int .u64 b,.int .u64 c,.int .u64 d,.int .u64 e,.int .u64 f]) (.int .i64 4)).run Tryz.prog w=.ok (.int .u64 e) w:=by kernel_rfl
theorem Qf (a b c d e f:Int) (w:World):(Instr.index 88 (.agg #[.int .u64 a,.int .u64 b,.int .u64 c,.int .u64 d,.int .u64 e,.int .u64 f]) (.int .i64 5)).run Tryz.prog w=.ok (.int .u64 f) w:=by kernel_rfl
theorem Ag (a b c d e f:Int) (i:Nat) (hi:i<6) (w:World):(Instr.index 88 (.agg #[.int .u64 a,.int .u64 b,.int .u64 c,.int .u64 d,.int .u64 e,.int .u64 f]) (.int .i64 (i:Int))).run Tryz.prog w=.ok (.int .u64 ([a,b,c,d,e,f][i]'hi)) w:=by
 have h:i=0∨i=1∨i=2∨i=3∨i=4∨i=5:=by omega
 rcases h with rfl | rfl | rfl | rfl | rfl | rfl
 ·exact Qk a b c d e f w
 ·exact Qj a b c d e f w
 ·exact Qi a b c d e f w
 ·exact Qh a b c d e f w
 ·exact Qg a b c d e f w
 ·exact Qf a b c d e f w
def jH (l:List Int):Int:=l.foldl (·*·) 1
theorem II (l:List Int) (j:Nat) (h:j<l.length):jH (l.take (j+1))=jH (l.take j)*l[j]:=by
 unfold jH;rw [List.take_succ_eq_append_getElem h,List.foldl_append];rfl
theorem EK {x n c:Int} (hx:fq x) (hn:fq n) (hc:fq c):jA (jA (x*n)+c)=jA (x*n+c)∧IntKind.u64.wrap (iZ (x*n)+iZ (jA (x*n)+c))=iZ (x*n+c):=by
 have h:=qF hx hn hc;have hp:0≤x*n:=Int.mul_nonneg hx.1 hn.1;generalize x*n=p at *;obtain ⟨c0,c1⟩:=hc;unfold fq at h;simp only [IntKind.wrap_u64];unfold iZ jA at *;omega
theorem LY {o x y c:Int} (ho:fq o) (hx:fq x) (hy:fq y) (hc:fq c) :
  jA (o+jA (jA (x*y)+c))=jA (o+x*y+c)∧IntKind.u64.wrap (iZ (x*y)+iZ (jA (x*y)+c))=iZ (x*y+c)∧IntKind.u64.wrap (iZ (x*y+c)+iZ (o+jA (jA (x*y)+c)))=iZ (o+x*y+c)∧fq (iZ (x*y+c)):=by
 have h:=sG ho hx hy hc;have h':=qF hx hy hc;have hp:0≤x*y:=Int.mul_nonneg hx.1 hy.1;generalize x*y=p at *;obtain ⟨c0,c1⟩:=hc;obtain ⟨o0,o1⟩:=ho;unfold fq at *;simp only [IntKind.wrap_u64];unfold iZ jA at *;omega
theorem hOf_any (n:Int) (h0:0≤n) (h1:n≤9223372036854775807) (w:World) :
  Calls Tryz.prog 64 #[.int .i64 n] w fun e w'=>e=.returned (iq n)∧Below w.heap.size w w':=by
 have HV:=ah (show iq n=.agg #[.int .u64 n,.int .u64 0,.int .u64 0,.int .u64 0,.int .u64 0,.int .u64 0] from by
  have e1:jA n=n:=P6 n ⟨h0,by omega⟩;have e2:iZ n=0:=QD n ⟨h0,by omega⟩;unfold iq limbs limbs limbs limbs limbs limbs limbs;rw [e1,e2];rfl)
 have hw:IntKind.u64.wrap n=n:=IntWalk.u64_in _ (by omega);rw [HV.out];go_enter Tryz.func64,Tryz.ntmps64;go_wp2
 exact bodyPost_ret (v:=.agg #[.int .u64 n,.int .u64 0,.int .u64 0,.int .u64 0,.int .u64 0,.int .u64 0]) (by simp [results,Tryz.results64,go_sem]) rfl ⟨rfl,(Below.refl _ _).alloc (Nat.le_refl _) _⟩
def tL (n:Int) (l:List Int) (i:Nat) (cur:List Int) (c:Int):Prop:=fq c∧∃done,done.length=i∧cur=done++l.drop i∧kY n l 0=done++kY n (l.drop i) c
theorem AV (n:Int) (l:List Int):tL n l 0 l 0:=⟨⟨by decide,by decide⟩,[],rfl,rfl,rfl⟩
theorem Dm {n:Int} {l:List Int} {i:Nat} {cur:List Int} {c:Int} (h:tL n l i cur c) (hi:i<l.length) (hl:Words l) (hn:fq n) :
  tL n l (i+1) (cur.set i (jA (l[i]*n+c))) (iZ (l[i]*n+c)):=by
 obtain ⟨hc,done,h1,h2,h3⟩:=h;have hx:=hl _ (List.getElem_mem hi);refine ⟨qF hx hn hc,done++[jA (l[i]*n+c)],by simp [h1],?_,?_⟩
 ·rw [h2,List.set_append_right _ _ (by omega),h1,Nat.sub_self,List.drop_eq_getElem_cons hi,List.set_cons_zero,List.append_assoc];rfl
 ·rw [h3,List.drop_eq_getElem_cons hi,kY];simp
theorem EM {n:Int} {l:List Int} {cur:List Int} {c:Int} (h:tL n l l.length cur c):cur=kY n l 0:=by
 obtain ⟨hc,done,h1,h2,h3⟩:=h;rw [List.drop_length] at h2 h3;rw [h2,h3];simp [kY]
theorem EL {n:Int} {l:List Int} {i:Nat} {cur:List Int} {c:Int} (h:tL n l i cur c) (hi:i≤l.length):cur.length=l.length:=by
 obtain ⟨hc,done,h1,h2,h3⟩:=h;rw [h2,List.length_append,List.length_drop,h1];omega
theorem Aj (N:Int) (l:List Int) (b0 off cap:Nat) (w:World) (h0:0≤N) (hl:∀x∈l,0≤x∧x≤9223372036854775807) (hf:∀j,j≤l.length→N*jH (l.take j)<bE 6) (hb:b0<w.heap.size) (hc:∀i (h:i<l.length),w.cell? ⟨b0,off+i,none⟩=some (.int .i64 l[i])) (hlen:l.length≤1000) :
  Calls Tryz.prog 65 #[iq N,.slice (some ⟨b0,off,none⟩) l.length cap] w fun e w'=>e=.returned (iq (N*jH l))∧Below w.heap.size w w':=by
 have HC:=ah hc;have HL:=ah hl;have HF:=ah hf;have HST:=ah (fun j (h:j<l.length)=>II l j h);have HW0:=ah (fM 6 N);have pR:=ah (iO 6 N h0 (by have:=hf 0 (Nat.zero_le _);rw [List.take_zero] at this;simpa [jH] using this));have Ez:=ah (show jH (l.take l.length)=jH l by rw [List.take_length]);have HP0:=ah (show jH (l.take 0)=1 from rfl);obtain ⟨a0,a1,a2,a3,a4,a5,hA⟩:=six (iP 6 N);unfold iq;rw [hA] at HW0 pR ⊢;clear hc hl hf h0 hA;have HT0:=ah (show aH ((w.alloc (.cells (dD [a0,a1,a2,a3,a4,a5]) 88)).alloc (.cells #[.int .u64 0,.int .u64 0,.int .u64 0,.int .u64 0,.int .u64 0,.int .u64 0] 88)) w.heap.size 88 (dD [a0,a1,a2,a3,a4,a5]) from (aH.new w _ _).alloc _)
 have AL:=ah (show aH ((w.alloc (.cells (dD [a0,a1,a2,a3,a4,a5]) 88)).alloc (.cells #[.int .u64 0,.int .u64 0,.int .u64 0,.int .u64 0,.int .u64 0,.int .u64 0] 88)) (w.heap.size+1) 88 #[.int .u64 0,.int .u64 0,.int .u64 0,.int .u64 0,.int .u64 0,.int .u64 0] from by
  have h:=aH.new (w.alloc (.cells (dD [a0,a1,a2,a3,a4,a5]) 88)) #[.int .u64 0,.int .u64 0,.int .u64 0,.int .u64 0,.int .u64 0,.int .u64 0] 88;simpa only [World.size_alloc] using h)
 have HB0:=ah (show Below w.heap.size w ((w.alloc (.cells (dD [a0,a1,a2,a3,a4,a5]) 88)).alloc (.cells #[.int .u64 0,.int .u64 0,.int .u64 0,.int .u64 0,.int .u64 0,.int .u64 0] 88)) from ((Below.refl _ _).alloc (Nat.le_refl _) _).alloc (by simp) _);have HZ0:=ah (show w.heap.size+2≤(((w.alloc (.cells (dD [a0,a1,a2,a3,a4,a5]) 88)).alloc (.cells #[.int .u64 0,.int .u64 0,.int .u64 0,.int .u64 0,.int .u64 0,.int .u64 0] 88))).heap.size by simp);have e0:dD [a0,a1,a2,a3,a4,a5]=#[.int .u64 a0,.int .u64 a1,.int .u64 a2,.int .u64 a3,.int .u64 a4,.int .u64 a5]:=rfl;rw [e0];go_enter Tryz.func65,Tryz.ntmps65;go_wp2_with fail;rw [e0] at HT0 AL HB0 HZ0;generalize hw0:((w.alloc (.cells #[.int .u64 a0,.int .u64 a1,.int .u64 a2,.int .u64 a3,.int .u64 a4,.int .u64 a5] 88)).alloc (.cells #[.int .u64 0,.int .u64 0,.int .u64 0,.int .u64 0,.int .u64 0,.int .u64 0] 88))=w1 at *;clear hw0;go_loopw [16] (fun i wx=>∃(j:Nat) (cur:List Int),j≤l.length∧i=.int .i64 j∧cur.length=6∧Hid (Words cur)∧Hid (bB cur=N*jH (l.take j))∧Hid (aH wx w.heap.size 88 (dD cur))∧Hid (aH wx (w.heap.size+1) 88 #[.int .u64 0,.int .u64 0,.int .u64 0,.int .u64 0,.int .u64 0,.int .u64 0])∧Hid (Below w.heap.size w wx)) (fun i _=>l.length-(intOf i).toNat)
 case atStart=>exact ⟨0,[a0,a1,a2,a3,a4,a5],Nat.zero_le _,rfl,rfl,HW0,ah (by rw [pR.out,HP0.out,Int.mul_one]),ah (by rw [e0];exact HT0.out),AL,HB0⟩
 case round=>
  clear HT0 AL HB0 HZ0 HW0 pR e0 HP0;obtain ⟨j,cur,hj,rfl,hcl,HWD,HVL,xR,Di,dI⟩:=hrel;obtain ⟨c0,c1,c2,c3,c4,c5,rfl⟩:=six hcl;have e0:dD [c0,c1,c2,c3,c4,c5]=#[.int .u64 c0,.int .u64 c1,.int .u64 c2,.int .u64 c3,.int .u64 c4,.int .u64 c5]:=rfl;have ht:=xR.out;rw [e0] at ht;have y0:=aH.cell (i:=0) ht rfl;have y1:=aH.cell (i:=1) ht rfl;have y2:=aH.cell (i:=2) ht rfl;have y3:=aH.cell (i:=3) ht rfl;have y4:=aH.cell (i:=4) ht rfl;have y5:=aH.cell (i:=5) ht rfl;have yl:=aH.lt ht;have hsz:=Di.out.lt;by_cases hlt:j<l.length
  ·have x0:=(dI.out.cell (p:=⟨b0,off+j,none⟩) hb).trans (HC.out j hlt);have hbr:b0<wr.heap.size:=by omega
   obtain ⟨n0,n1⟩:=HL.out _ (List.getElem_mem hlt);have JV:=ah (HST.out j hlt);have HFN:=ah (HF.out (j+1) (by omega));generalize l[j]=n at *;have a1:IntKind.u64.wrap n=n:=IntWalk.u64_in _ (by omega);have HN:=ah (show fq n from ⟨n0,by omega⟩);have HIX:=ah (fun i hi=>Ag c0 c1 c2 c3 c4 c5 i hi);have HS0:=ah (AV n [c0,c1,c2,c3,c4,c5]);clear ht;go_wp2_with fail;clear x0 y0 y1 y2 y3 y4 y5 yl;obtain ⟨wo,rfl⟩:∃wo:World,wo=wr:=⟨_,rfl⟩;go_loopw [21,7] (fun i c wx=>∃(k:Nat) (cur:List Int) (cc:Int),k≤6∧i=.int .i64 k∧c=.int .u64 cc∧Hid (tL n [c0,c1,c2,c3,c4,c5] k cur cc)∧Hid (aH wx w.heap.size 88 (dD cur))∧Hid (aH wx (w.heap.size+1) 88 #[.int .u64 0,.int .u64 0,.int .u64 0,.int .u64 0,.int .u64 0,.int .u64 0])∧Hid (Below w.heap.size w wx)) (fun i _ _=>6-(intOf i).toNat)
   case atStart=>exact ⟨0,_,0,by omega,rfl,rfl,HS0,xR,Di,dI⟩
   case round=>
    clear xR Di dI;obtain ⟨k,cur,cc,hk,rfl,rfl,rC,xR,Di,dI⟩:=hrel;by_cases tY:k<6
    ·have hk6':(k:Int)<6:=by omega
     have hix:=HIX.out k tY;have hlen:=EL rC.out (by simpa using hk);have hx:fq ([c0,c1,c2,c3,c4,c5][k]'(by simpa using tY)):=HWD.out _ (List.getElem_mem _);have vT:=ah (Dm rC.out (by simpa using tY) HWD.out HN.out);generalize [c0,c1,c2,c3,c4,c5][k]'(by simpa using tY)=x at *;have hcc:=rC.out.1;obtain ⟨q1,q2⟩:=EK hx HN.out hcc;have hcw:=qF hx HN.out hcc;have HM:=ah (fun W=>mul64 x n hx HN.out W);have hlo:=fG (x*n);have hadd:=fun W=>El (jA (x*n)) cc hlo hcc W;rw [q1] at hadd;generalize jA (x*n+cc)=sv at *;generalize iZ (x*n+cc)=cv at *;generalize iZ (jA (x*n)+cc)=kv at *;generalize iZ (x*n)=hv at *;generalize jA (x*n)=lv at *;obtain ⟨zv,z0⟩:∃zv,wr.cell? ⟨w.heap.size,k,none⟩=some (.int .u64 zv):=⟨_,xR.out.cell (jv (by rw [hlen];simpa using tY))⟩;have zf:=xR.out.frozen k;have zl:=xR.out.lt;have HT2:=ah (xR.out.set k (.int .u64 sv));rw [tC] at HT2;have HR2:=ah (Di.out.setOther (b':=w.heap.size) (i:=k) (by omega) (.int .u64 sv));have HB2:=ah (dI.out.setCell (p:=⟨w.heap.size,k,none⟩) (Nat.le_refl _) (.int .u64 sv));clear xR Di dI rC q1 hx hcc hcw hlo hlen;go_wp2_with (first | (go_at_call 95;refine (HM.out _).mono ?_;rintro e w' ⟨rfl,rfl⟩) | fail);go_roundw
     case rel=>exact ⟨k+1,_,cv,by omega,by first | rfl | go_num,rfl,vT,HT2,HR2,HB2⟩
     case measure=>simp [intOf];omega
    ·have hkk:k=6:=by omega
     subst hkk;have HE:=ah (EM rC.out);have HW2:=ah (show Words cur by rw [HE.out];exact uX _ _ _);have HL2:cur.length=6:=by rw [HE.out,zi];rfl
     have Dh:=ah (show bB cur=N*jH (l.take (j+1)) by
      rw [HE.out,zh n0 _ _ (Int.le_refl _) HWD.out (by rw [HVL.out,Int.add_zero,Int.mul_assoc,←JV.out];exact HFN.out),HVL.out,Int.add_zero,Int.mul_assoc,←JV.out])
     go_wp2_with fail;go_roundw
     case rel=>exact ⟨j+1,cur,by omega,by first | rfl | go_num,HL2,HW2,Dh,xR,Di,dI⟩
     case measure=>simp [intOf];omega
  ·have hjj:j=l.length:=by omega
   subst hjj
   have HV:=ah (show iq (N*jH l)=.agg #[.int .u64 c0,.int .u64 c1,.int .u64 c2,.int .u64 c3,.int .u64 c4,.int .u64 c5] by
    rw [←Ez.out,←HVL.out,vI rfl HWD.out,e0])
   have hr:=Di.out;have r0:=aH.cell (i:=0) hr rfl;have r1:=aH.cell (i:=1) hr rfl;have r2:=aH.cell (i:=2) hr rfl;have r3:=aH.cell (i:=3) hr rfl;have r4:=aH.cell (i:=4) hr rfl;have r5:=aH.cell (i:=5) hr rfl;have rf0:=aH.frozen hr 0;have rf1:=aH.frozen hr 1;have rf2:=aH.frozen hr 2;have rf3:=aH.frozen hr 3;have rf4:=aH.frozen hr 4;have rf5:=aH.frozen hr 5;have gu:=ah ((((((dI.out.setCell (p:=⟨w.heap.size+1,0,none⟩) (by simp) (.int .u64 c0)).setCell (p:=⟨w.heap.size+1,1,none⟩) (by simp) (.int .u64 c1)).setCell (p:=⟨w.heap.size+1,2,none⟩) (by simp) (.int .u64 c2)).setCell (p:=⟨w.heap.size+1,3,none⟩) (by simp) (.int .u64 c3)).setCell (p:=⟨w.heap.size+1,4,none⟩) (by simp) (.int .u64 c4)).setCell (p:=⟨w.heap.size+1,5,none⟩) (by simp) (.int .u64 c5));clear hr ht;go_wp2_with fail;exact bodyPost_ret (v:=.agg #[.int .u64 c0,.int .u64 c1,.int .u64 c2,.int .u64 c3,.int .u64 c4,.int .u64 c5]) (by simp [results,Tryz.results65,go_sem,r0,r1,r2,r3,r4,r5]) rfl ⟨congrArg Ending.returned HV.out.symm,gu.out⟩
def uQ (l m:List Int) (i:Nat) (cur:List Int) (c:Int):Prop:=(0≤c∧c≤1)∧∃done,done.length=i∧cur=done++l.drop i∧lQ l m 0=done++lQ (l.drop i) (m.drop i) c
theorem Ep (l m:List Int):uQ l m 0 l 0:=⟨⟨by decide,by decide⟩,[],rfl,rfl,rfl⟩
theorem JL {x y c:Int} (hx:fq x) (hy:fq y) (hc:0≤c∧c≤1):0≤iZ (x+y+c)∧iZ (x+y+c)≤1:=by
 unfold fq at *;unfold iZ;omega
theorem GL {l m:List Int} {i:Nat} {cur:List Int} {c:Int} (h:uQ l m i cur c) (hi:i<l.length) (hm:i<m.length) (hl:Words l) (hw:Words m) :
  uQ l m (i+1) (cur.set i (jA (l[i]+m[i]+c))) (iZ (l[i]+m[i]+c)):=by
 obtain ⟨hc,done,h1,h2,h3⟩:=h;have hx:=hl _ (List.getElem_mem hi);have hy:=hw _ (List.getElem_mem hm);refine ⟨JL hx hy hc,done++[jA (l[i]+m[i]+c)],by simp [h1],?_,?_⟩
 ·rw [h2,List.set_append_right _ _ (by omega),h1,Nat.sub_self,List.drop_eq_getElem_cons hi,List.set_cons_zero,List.append_assoc];rfl
 ·rw [h3,List.drop_eq_getElem_cons hi,List.drop_eq_getElem_cons hm,lQ];simp
theorem JO {l m:List Int} {cur:List Int} {c:Int} (h:uQ l m l.length cur c) (hlm:l.length=m.length):cur=lQ l m 0:=by
 obtain ⟨hc,done,h1,h2,h3⟩:=h;have e:lQ [] (m.drop l.length) c=[]:=by unfold lQ;rfl
 rw [List.drop_length] at h2 h3;rw [h2,h3,e]
theorem JM {l m:List Int} {i:Nat} {cur:List Int} {c:Int} (h:uQ l m i cur c) (hi:i≤l.length):cur.length=l.length:=by
 obtain ⟨hc,done,h1,h2,h3⟩:=h;rw [h2,List.length_append,List.length_drop,h1];omega
theorem JN {l m:List Int} {i:Nat} {cur:List Int} {c:Int} (h:uQ l m i cur c) (hi:i<l.length) (hc:i<cur.length):cur[i]=l[i]:=by
 obtain ⟨_,done,h1,h2,_⟩:=h;subst h2;rw [List.getElem_append_right (by omega),List.getElem_drop];congr 1
 omega
theorem M4 (N M:Int) (w:World) (hN:0≤N) (hM:0≤M) (hf:N+M<bE 6) :
  Calls Tryz.prog 69 #[iq N,iq M] w fun e w'=>e=.returned (iq (N+M))∧Below w.heap.size w w':=by
 have Dg:=ah (fM 6 N);have Dc:=ah (fM 6 M);have EF:=ah (iO 6 N (by omega) (by omega));have yJ:=ah (iO 6 M (by omega) (by omega));have HF:=ah hf;have HNN:=ah hN;obtain ⟨a0,a1,a2,a3,a4,a5,hA⟩:=six (iP 6 N);obtain ⟨b0,b1,b2,b3,b4,b5,hB⟩:=six (iP 6 M)
 have HG:=ah (show iq (N+M)=.agg (dD (lQ [a0,a1,a2,a3,a4,a5] [b0,b1,b2,b3,b4,b5] 0)) from by
  rw [hA] at Dg EF;rw [hB] at Dc yJ;have h1:=BS [a0,a1,a2,a3,a4,a5] [b0,b1,b2,b3,b4,b5] 0 rfl (Int.le_refl _) Dg.out Dc.out (by rw [EF.out,yJ.out,Int.add_zero];exact hf);rw [EF.out,yJ.out,Int.add_zero] at h1;rw [←h1];exact vI (BU _ _ _ rfl) (yc _ _ _))
 rw [HG.out];unfold iq;rw [hA] at Dg EF ⊢;rw [hB] at Dc yJ ⊢;clear hf hN hM hA hB HG;have rC:=ah (show aH (((w.alloc (.cells #[.int .u64 a0,.int .u64 a1,.int .u64 a2,.int .u64 a3,.int .u64 a4,.int .u64 a5] 88)).alloc (.cells #[.int .u64 b0,.int .u64 b1,.int .u64 b2,.int .u64 b3,.int .u64 b4,.int .u64 b5] 88)).alloc (.cells #[.int .u64 0,.int .u64 0,.int .u64 0,.int .u64 0,.int .u64 0,.int .u64 0] 88)) w.heap.size 88 (dD [a0,a1,a2,a3,a4,a5]) from ((aH.new w _ _).alloc _).alloc _)
 have xS:=ah (show aH (((w.alloc (.cells #[.int .u64 a0,.int .u64 a1,.int .u64 a2,.int .u64 a3,.int .u64 a4,.int .u64 a5] 88)).alloc (.cells #[.int .u64 b0,.int .u64 b1,.int .u64 b2,.int .u64 b3,.int .u64 b4,.int .u64 b5] 88)).alloc (.cells #[.int .u64 0,.int .u64 0,.int .u64 0,.int .u64 0,.int .u64 0,.int .u64 0] 88)) (w.heap.size+1) 88 #[.int .u64 b0,.int .u64 b1,.int .u64 b2,.int .u64 b3,.int .u64 b4,.int .u64 b5] from by
  have h:=(aH.new (w.alloc (.cells #[.int .u64 a0,.int .u64 a1,.int .u64 a2,.int .u64 a3,.int .u64 a4,.int .u64 a5] 88)) #[.int .u64 b0,.int .u64 b1,.int .u64 b2,.int .u64 b3,.int .u64 b4,.int .u64 b5] 88).alloc (.cells #[.int .u64 0,.int .u64 0,.int .u64 0,.int .u64 0,.int .u64 0,.int .u64 0] 88);simpa only [World.size_alloc] using h)
 have Ay:=ah (show aH (((w.alloc (.cells #[.int .u64 a0,.int .u64 a1,.int .u64 a2,.int .u64 a3,.int .u64 a4,.int .u64 a5] 88)).alloc (.cells #[.int .u64 b0,.int .u64 b1,.int .u64 b2,.int .u64 b3,.int .u64 b4,.int .u64 b5] 88)).alloc (.cells #[.int .u64 0,.int .u64 0,.int .u64 0,.int .u64 0,.int .u64 0,.int .u64 0] 88)) (w.heap.size+2) 88 #[.int .u64 0,.int .u64 0,.int .u64 0,.int .u64 0,.int .u64 0,.int .u64 0] from by
  have h:=aH.new ((w.alloc (.cells #[.int .u64 a0,.int .u64 a1,.int .u64 a2,.int .u64 a3,.int .u64 a4,.int .u64 a5] 88)).alloc (.cells #[.int .u64 b0,.int .u64 b1,.int .u64 b2,.int .u64 b3,.int .u64 b4,.int .u64 b5] 88)) #[.int .u64 0,.int .u64 0,.int .u64 0,.int .u64 0,.int .u64 0,.int .u64 0] 88;simpa only [World.size_alloc] using h)
 have HB0:=ah (show Below w.heap.size w (((w.alloc (.cells #[.int .u64 a0,.int .u64 a1,.int .u64 a2,.int .u64 a3,.int .u64 a4,.int .u64 a5] 88)).alloc (.cells #[.int .u64 b0,.int .u64 b1,.int .u64 b2,.int .u64 b3,.int .u64 b4,.int .u64 b5] 88)).alloc (.cells #[.int .u64 0,.int .u64 0,.int .u64 0,.int .u64 0,.int .u64 0,.int .u64 0] 88)) from (((Below.refl _ _).alloc (Nat.le_refl _) _).alloc (by simp) _).alloc (by simp;omega) _);have eA:dD [a0,a1,a2,a3,a4,a5]=#[.int .u64 a0,.int .u64 a1,.int .u64 a2,.int .u64 a3,.int .u64 a4,.int .u64 a5]:=rfl;have eB:dD [b0,b1,b2,b3,b4,b5]=#[.int .u64 b0,.int .u64 b1,.int .u64 b2,.int .u64 b3,.int .u64 b4,.int .u64 b5]:=rfl;rw [eA,eB];have HS0:=ah (Ep [a0,a1,a2,a3,a4,a5] [b0,b1,b2,b3,b4,b5]);go_enter Tryz.func69,Tryz.ntmps69;go_wp2_with fail;generalize hw0:(((w.alloc (.cells #[.int .u64 a0,.int .u64 a1,.int .u64 a2,.int .u64 a3,.int .u64 a4,.int .u64 a5] 88)).alloc (.cells #[.int .u64 b0,.int .u64 b1,.int .u64 b2,.int .u64 b3,.int .u64 b4,.int .u64 b5] 88)).alloc (.cells #[.int .u64 0,.int .u64 0,.int .u64 0,.int .u64 0,.int .u64 0,.int .u64 0] 88))=w1 at *;clear hw0;go_loopw [7,5] (fun i c wx=>∃(k:Nat) (cur:List Int) (cc:Int),k≤6∧i=.int .i64 k∧c=.int .u64 cc∧Hid (uQ [a0,a1,a2,a3,a4,a5] [b0,b1,b2,b3,b4,b5] k cur cc)∧Hid (aH wx w.heap.size 88 (dD cur))∧Hid (aH wx (w.heap.size+1) 88 #[.int .u64 b0,.int .u64 b1,.int .u64 b2,.int .u64 b3,.int .u64 b4,.int .u64 b5])∧Hid (aH wx (w.heap.size+2) 88 #[.int .u64 0,.int .u64 0,.int .u64 0,.int .u64 0,.int .u64 0,.int .u64 0])∧Hid (Below w.heap.size w wx)) (fun i _ _=>6-(intOf i).toNat)
 case atStart=>exact ⟨0,_,0,by omega,rfl,rfl,HS0,rC,xS,Ay,HB0⟩
 case round=>
  clear rC xS Ay HB0 HS0;obtain ⟨k,cur,cc,hk,rfl,rfl,HA,rC,xS,Ay,dI⟩:=hrel;have hlen:=JM HA.out (by simpa using hk);have hrl:=Ay.out.lt;by_cases tY:k<6
  ·have hk6':(k:Int)<6:=by omega
   have hx:fq ([a0,a1,a2,a3,a4,a5][k]'(by simpa using tY)):=Dg.out _ (List.getElem_mem _);have hy:fq ([b0,b1,b2,b3,b4,b5][k]'(by simpa using tY)):=Dc.out _ (List.getElem_mem _);have vT:=ah (GL HA.out (by simpa using tY) (by simpa using tY) Dg.out Dc.out);have hcc:=HA.out.1
   have z0:wr.cell? ⟨w.heap.size,k,none⟩=some (.int .u64 ([a0,a1,a2,a3,a4,a5][k]'(by simpa using tY))):=by
    have h:=rC.out.cell (jv (i:=k) (by rw [hlen];simpa using tY));rw [JN HA.out (by simpa using tY)] at h;exact h
   have z1:wr.cell? ⟨w.heap.size+1,k,none⟩=some (.int .u64 ([b0,b1,b2,b3,b4,b5][k]'(by simpa using tY))):=aH.cell (show aH wr _ _ (dD [b0,b1,b2,b3,b4,b5]) from xS.out) (jv (i:=k) (by simpa using tY));have zf:=rC.out.frozen k;generalize [a0,a1,a2,a3,a4,a5][k]'(by simpa using tY)=x at *;generalize [b0,b1,b2,b3,b4,b5][k]'(by simpa using tY)=y at *;have hadd:=fun W=>add64 x y cc hx hy hcc.1 hcc.2 W;generalize jA (x+y+cc)=sv at *;generalize iZ (x+y+cc)=cv at *;have HT2:=ah (rC.out.set k (.int .u64 sv));rw [tC] at HT2;have HTB2:=ah (xS.out.setOther (b':=w.heap.size) (i:=k) (by omega) (.int .u64 sv));have RN:=ah (Ay.out.setOther (b':=w.heap.size) (i:=k) (by omega) (.int .u64 sv));have HB2:=ah (dI.out.setCell (p:=⟨w.heap.size,k,none⟩) (Nat.le_refl _) (.int .u64 sv));have HT3:=ah (show aH (wr.setCell ⟨w.heap.size,k,none⟩ (.int .u64 sv)).drew w.heap.size 88 (dD (cur.set k sv)) from HT2.out);have HTB3:=ah (show aH (wr.setCell ⟨w.heap.size,k,none⟩ (.int .u64 sv)).drew (w.heap.size+1) 88 #[.int .u64 b0,.int .u64 b1,.int .u64 b2,.int .u64 b3,.int .u64 b4,.int .u64 b5] from HTB2.out);have HTR3:=ah (show aH (wr.setCell ⟨w.heap.size,k,none⟩ (.int .u64 sv)).drew (w.heap.size+2) 88 #[.int .u64 0,.int .u64 0,.int .u64 0,.int .u64 0,.int .u64 0,.int .u64 0] from RN.out);have HB3:=ah HB2.out.drew;clear HA hx hy hcc hlen;go_wp2_with fail;go_region
   go_wp2_with fail;go_roundw
   case rel=>exact ⟨k+1,_,cv,by omega,by first | rfl | go_num,rfl,vT,HT3,HTB3,HTR3,HB3⟩
   case measure=>simp [intOf];omega
  ·have hkk:k=6:=by omega
   subst hkk;have HE:=ah (JO HA.out rfl);obtain ⟨c0,c1,c2,c3,c4,c5,rfl⟩:=six hlen;have ht:=rC.out;have e0:dD [c0,c1,c2,c3,c4,c5]=#[.int .u64 c0,.int .u64 c1,.int .u64 c2,.int .u64 c3,.int .u64 c4,.int .u64 c5]:=rfl;rw [e0] at ht;have y0:=aH.cell (i:=0) ht rfl;have y1:=aH.cell (i:=1) ht rfl;have y2:=aH.cell (i:=2) ht rfl;have y3:=aH.cell (i:=3) ht rfl;have y4:=aH.cell (i:=4) ht rfl;have y5:=aH.cell (i:=5) ht rfl;have yl:=aH.lt ht;have hr:=Ay.out;have r0:=aH.cell (i:=0) hr rfl;have r1:=aH.cell (i:=1) hr rfl;have r2:=aH.cell (i:=2) hr rfl;have r3:=aH.cell (i:=3) hr rfl;have r4:=aH.cell (i:=4) hr rfl;have r5:=aH.cell (i:=5) hr rfl;have rf0:=aH.frozen hr 0;have rf1:=aH.frozen hr 1;have rf2:=aH.frozen hr 2;have rf3:=aH.frozen hr 3;have rf4:=aH.frozen hr 4;have rf5:=aH.frozen hr 5;have gu:=ah ((((((dI.out.setCell (p:=⟨w.heap.size+2,0,none⟩) (by simp) (.int .u64 c0)).setCell (p:=⟨w.heap.size+2,1,none⟩) (by simp) (.int .u64 c1)).setCell (p:=⟨w.heap.size+2,2,none⟩) (by simp) (.int .u64 c2)).setCell (p:=⟨w.heap.size+2,3,none⟩) (by simp) (.int .u64 c3)).setCell (p:=⟨w.heap.size+2,4,none⟩) (by simp) (.int .u64 c4)).setCell (p:=⟨w.heap.size+2,5,none⟩) (by simp) (.int .u64 c5));clear hr ht;go_wp2_with fail;exact bodyPost_ret (v:=.agg #[.int .u64 c0,.int .u64 c1,.int .u64 c2,.int .u64 c3,.int .u64 c4,.int .u64 c5]) (by simp [results,Tryz.results69,go_sem,r0,r1,r2,r3,r4,r5]) rfl ⟨by rw [←HE.out];rfl,gu.out⟩
end Go.Proofs.YtopmdeefcjdadaaGreat
