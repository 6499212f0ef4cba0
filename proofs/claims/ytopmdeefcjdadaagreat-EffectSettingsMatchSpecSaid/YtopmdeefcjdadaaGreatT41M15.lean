import Derived.Test.YtopmdeefcjdadaaGreatT41M00
import Derived.Test.YtopmdeefcjdadaaGreatT41M11
import Derived.Test.YtopmdeefcjdadaaGreatT41M01
import Derived.Test.YtopmdeefcjdadaaGreatT41M02
import Derived.BigRegion
set_option linter.unusedVariables false
set_option linter.unusedSimpArgs false
set_option maxRecDepth 100000
set_option maxHeartbeats 32000000
namespace Go.Proofs.YtopmdeefcjdadaaGreat
open Go.RowKit
instance decBytes:DecidableEq ByteArray:=fun a b=>if h:a.data=b.data then isTrue (ByteArray.ext h) else isFalse (fun e=>h (by rw [e]))
def jg.k (s:jg):Int×ByteArray:=(s.unit,s.par)
def isK (k:Int×ByteArray) (s:jg):Bool:=decide (s.k=k)
def pV (x:jw) (pre:List jg) (s:jg):Int:=
 if (gu x s.unit s.par.data.toList).isNone then 8 else if !bU s.lv 0 65535 then 1 else if pre.any (isK s.k) then 6 else 0
def eX (x:jw) (l:List jg):Int:=bP (pV x) l 0
theorem yZ {s:jg} (h:qZ s):iX s.k:=⟨h.1,h.2.1⟩
end Go.Proofs.YtopmdeefcjdadaaGreat
namespace Go.Proofs.YtopmdeefcjdadaaGreat
def jL:Int:=18446744073709551616
theorem kZ:0<jL:=by unfold jL;decide
theorem nC (x:Int):jk x+jL*iM x=x:=by unfold jk iM jL;omega
theorem fA (x:Int):0≤jk x∧jk x<jL:=by unfold jk jL;omega
theorem mF {x:Int} (h:0≤x):0≤iM x:=by unfold iM;omega
theorem lF (x:Int):eH x↔0≤x∧x<jL:=Iff.rfl
def bq:List Int→Int
 | []=>0
 | a::l=>a+jL*bq l
def bB:Nat→Int
 | 0=>1
 | n+1=>jL*bB n
def Words (l:List Int):Prop:=∀x∈l,eH x
theorem Words.head {x:Int} {l:List Int} (h:Words (x::l)):eH x:=h x (by simp)
theorem Words.tail {x:Int} {l:List Int} (h:Words (x::l)):Words l:=fun y hy=>h y (by simp [hy])
theorem kN {x:Int} {l:List Int} (h:eH x) (k:Words l):Words (x::l):=fun y hy=>by
 rcases List.mem_cons.1 hy with rfl | hy
 ·exact h
 ·exact k y hy
theorem mG:∀l:List Int,Words l→0≤bq l∧bq l<bB l.length
 | [],_=>by simp [bq,bB]
 | x::l,h=>by
  obtain ⟨h1,h2⟩:=mG l h.tail;obtain ⟨x0,x1⟩:=(lF x).1 h.head;simp only [bq,bB,List.length_cons];have a1:0≤jL*bq l:=Int.mul_nonneg (Int.le_of_lt kZ) h1;have a2:jL*(bq l+1)≤jL*bB l.length:=Int.mul_le_mul_of_nonneg_left (by omega) (Int.le_of_lt kZ);rw [Int.mul_add,Int.mul_one] at a2;omega
theorem nD {a p:Int} (h:jL*a<jL*p):a<p:=Int.lt_of_mul_lt_mul_left h (Int.le_of_lt kZ)
def kQ (n:Int):List Int→Int→List Int
 | [],_=>[]
 | x::l,c=>jk (x*n+c)::kQ n l (iM (x*n+c))
theorem xY (n:Int):∀l c,(kQ n l c).length=l.length
 | [],_=>rfl
 | x::l,c=>by simp [kQ,xY n l]
theorem uh (n:Int):∀l c,Words (kQ n l c)
 | [],_=>by simp [kQ,Words]
 | x::l,c=>kN (fA _) (uh n l _)
theorem xX {n:Int} (hn:0≤n):∀l c,0≤c→Words l→bq l*n+c<bB l.length→bq (kQ n l c)=bq l*n+c
 | [],c,hc,_,h=>by simp [bq,bB,kQ] at *;omega
 | x::l,c,hc,hw,h=>by
  have hs:0≤x*n+c:=Int.add_nonneg (Int.mul_nonneg hw.head.1 hn) hc
  have e:bq (x::l)*n+c=jk (x*n+c)+jL*(bq l*n+iM (x*n+c)):=by
   have:=nC (x*n+c);simp only [bq];have e1:(x+jL*bq l)*n=x*n+jL*(bq l*n):=by rw [Int.add_mul,Int.mul_assoc]
   rw [e1,Int.mul_add];omega
  rw [e] at h ⊢;simp only [List.length_cons,bB] at h;have:=(fA (x*n+c)).1;have h2:bq l*n+iM (x*n+c)<bB l.length:=nD (by omega);rw [kQ,bq,xX hn l _ (mF hs) hw.tail h2]
theorem pE {x y c:Int} (hx:eH x) (hy:eH y) (hc:eH c):eH (iM (x*y+c)):=by
 rw [lF] at *;have hp:0≤x*y:=Int.mul_nonneg hx.1 hy.1;refine ⟨mF (by omega),?_⟩;have h1:x*y≤(jL-1)*(jL-1):=Int.le_trans (Int.mul_le_mul_of_nonneg_right (by omega) hy.1) (Int.mul_le_mul_of_nonneg_left (by omega) (by omega));have h2:(jL-1)*(jL-1)+(jL-1)=jL*(jL-1):=by have:=Int.sub_mul jL 1 (jL-1);omega
 have h3:=nC (x*y+c);have h4:=(fA (x*y+c)).1;have h5:jL*iM (x*y+c)<jL*jL:=by have h6:=Int.mul_sub jL jL 1;have:=kZ;omega
 exact nD h5
theorem qX {o x y c:Int} (ho:eH o) (hx:eH x) (hy:eH y) (hc:eH c):eH (iM (o+x*y+c)):=by
 rw [lF] at *;have hp:0≤x*y:=Int.mul_nonneg hx.1 hy.1;refine ⟨mF (by omega),?_⟩;have h1:x*y≤(jL-1)*(jL-1):=Int.le_trans (Int.mul_le_mul_of_nonneg_right (by omega) hy.1) (Int.mul_le_mul_of_nonneg_left (by omega) (by omega));have h2:(jL-1)+(jL-1)*(jL-1)+(jL-1)=jL*jL-1:=by have:=Int.sub_mul jL 1 (jL-1);have:=Int.mul_sub jL jL 1;omega
 have h3:=nC (o+x*y+c);have h4:=(fA (o+x*y+c)).1;exact nD (by omega)
def lD:List Int→List Int→Int→List Int
 | x::l,y::m,c=>jk (x+y+c)::lD l m (iM (x+y+c))
 | _,_,_=>[]
theorem wT:∀l m c,Words (lD l m c)
 | x::l,y::m,c=>kN (fA _) (wT l m _)
 | [],_,_=>by simp [lD,Words]
 | _::_,[],_=>by simp [lD,Words]
theorem AU:∀l m c,l.length=m.length→(lD l m c).length=l.length
 | x::l,y::m,c,h=>by simp [lD,AU l m _ (by simpa using h)]
 | [],_,_,_=>by simp [lD]
 | _::_,[],_,h=>by simp at h
theorem AR:∀l m c,l.length=m.length→0≤c→Words l→Words m→bq l+bq m+c<bB l.length→bq (lD l m c)=bq l+bq m+c
 | [],[],c,_,hc,_,_,h=>by simp [bq,bB,lD] at *;omega
 | x::l,y::m,c,hlm,hc,hw,hv,h=>by
  have hs:0≤x+y+c:=by have:=hw.head.1;have:=hv.head.1;omega
  have e:bq (x::l)+bq (y::m)+c=jk (x+y+c)+jL*(bq l+bq m+iM (x+y+c)):=by
   have:=nC (x+y+c);simp only [bq];rw [Int.mul_add,Int.mul_add];omega
  rw [e] at h ⊢;simp only [List.length_cons,bB] at h;have:=(fA (x+y+c)).1;have h2:bq l+bq m+iM (x+y+c)<bB l.length:=nD (by omega);rw [lD,bq,AR l m _ (by simpa using hlm) (mF hs) hw.tail hv.tail h2]
 | [],_::_,_,h,_,_,_,_=>by simp at h
 | _::_,[],_,h,_,_,_,_=>by simp at h
def iR:List Int→List Int→Int→List Int
 | x::l,y::m,c=>jk (x-y-c)::iR l m (-iM (x-y-c))
 | _,_,_=>[]
theorem uE:∀l m c,Words (iR l m c)
 | x::l,y::m,c=>kN (fA _) (uE l m _)
 | [],_,_=>by simp [iR,Words]
 | _::_,[],_=>by simp [iR,Words]
theorem yQ:∀l m c,l.length=m.length→(iR l m c).length=l.length
 | x::l,y::m,c,h=>by simp [iR,yQ l m _ (by simpa using h)]
 | [],_,_,_=>by simp [iR]
 | _::_,[],_,h=>by simp at h
theorem yP:∀l m c,l.length=m.length→Words l→Words m→0≤bq l-bq m-c→bq l-bq m-c<bB l.length→bq (iR l m c)=bq l-bq m-c
 | [],[],c,_,_,_,h,h'=>by simp [bq,iR,bB] at *;omega
 | x::l,y::m,c,hlm,hw,hv,h,h'=>by
  have e:bq (x::l)-bq (y::m)-c=jk (x-y-c)+jL*(bq l-bq m - -iM (x-y-c)):=by
   have:=nC (x-y-c);simp only [bq];rw [Int.mul_sub,Int.mul_sub,Int.mul_neg];omega
  rw [e] at h h' ⊢;simp only [List.length_cons,bB] at h';have:=fA (x-y-c)
  have h2:0≤bq l-bq m - -iM (x-y-c):=by
   by_cases k:0≤bq l-bq m - -iM (x-y-c)
   ·exact k
   ·have h3:jL*(bq l-bq m - -iM (x-y-c))≤jL*(-1):=Int.mul_le_mul_of_nonneg_left (by omega) (Int.le_of_lt kZ);omega
  have h4:bq l-bq m - -iM (x-y-c)<bB l.length:=nD (by omega);rw [iR,bq,yP l m _ (by simpa using hlm) hw.tail hv.tail h2 h4]
 | [],_::_,_,h,_,_,_,_=>by simp at h
 | _::_,[],_,h,_,_,_,_=>by simp at h
theorem K6 {l m s:List Int} (hlm:l.length=m.length):bq (l++s)<bq (m++s)↔bq l<bq m:=by
 induction l generalizing m with
 | nil=>
  obtain rfl:m=[]:=List.eq_nil_of_length_eq_zero (by simpa using hlm.symm);simp
 | cons x l ih=>
  match m,hlm with
  | y::m,h=>
   have key:∀l m:List Int,l.length=m.length→bq (l++s)-bq (m++s)=bq l-bq m:=by
    intro l
    induction l with
    | nil=>
     intro m h;obtain rfl:m=[]:=List.eq_nil_of_length_eq_zero (by simpa using h.symm);simp [bq]
    | cons x l ih=>
     intro m h
     match m,h with
     | y::m,h=>
      have:=ih m (by simpa using h);simp only [List.cons_append,bq];have e1:jL*bq (l++s)-jL*bq (m++s)=jL*bq l-jL*bq m:=by rw [←Int.mul_sub,←Int.mul_sub,this]
      omega
   have:=key (x::l) (y::m) h;omega
theorem less_at {l m s:List Int} {x y:Int} (hlm:l.length=m.length) (hl:Words l) (hm:Words m) (hxy:x≠y):(bq (l++x::s)<bq (m++y::s))↔x<y:=by
 have e1:l++x::s=(l++[x])++s:=by simp
 have e2:m++y::s=(m++[y])++s:=by simp
 rw [e1,e2,K6 (by simp [hlm])];clear e1 e2
 have key:∀l m:List Int,l.length=m.length→Words l→Words m→(bq (l++[x])<bq (m++[y])↔x<y):=by
  intro l
  induction l with
  | nil=>
   intro m h _ _;obtain rfl:m=[]:=List.eq_nil_of_length_eq_zero (by simpa using h.symm);simp [bq]
  | cons a l ih=>
   intro m h hl hm
   match m,h,hm with
   | b::m,h,hm=>
    have:=ih m (by simpa using h) hl.tail hm.tail;obtain ⟨x0,x1⟩:=(lF a).1 hl.head;obtain ⟨y0,y1⟩:=(lF b).1 hm.head;simp only [List.cons_append,bq];rw [←this];constructor
    ·intro hq;by_cases c:bq (l++[x])<bq (m++[y])
     ·exact c
     ·exfalso;by_cases d:bq (l++[x])=bq (m++[y])
      ·have key2:∀l m:List Int,l.length=m.length→Words l→Words m→bq (l++[x])=bq (m++[y])→x=y:=by
        intro l
        induction l with
        | nil=>
         intro m h _ _ e;obtain rfl:m=[]:=List.eq_nil_of_length_eq_zero (by simpa using h.symm);simpa [bq] using e
        | cons a l ih=>
         intro m h hl hm e
         match m,h,hm with
         | b::m,h,hm=>
          obtain ⟨x0,x1⟩:=(lF a).1 hl.head;obtain ⟨y0,y1⟩:=(lF b).1 hm.head;simp only [List.cons_append,bq] at e;refine ih m (by simpa using h) hl.tail hm.tail ?_;rcases Int.lt_trichotomy (bq (l++[x])) (bq (m++[y])) with c | c | c
          ·have:=Int.mul_le_mul_of_nonneg_left (show bq (l++[x])+1≤bq (m++[y]) by omega) (Int.le_of_lt kZ);rw [Int.mul_add,Int.mul_one] at this;omega
          ·exact c
          ·have:=Int.mul_le_mul_of_nonneg_left (show bq (m++[y])+1≤bq (l++[x]) by omega) (Int.le_of_lt kZ);rw [Int.mul_add,Int.mul_one] at this;omega
       exact hxy (key2 l m (by simpa using h) hl.tail hm.tail d)
      ·have:=Int.mul_le_mul_of_nonneg_left (show bq (m++[y])+1≤bq (l++[x]) by omega) (Int.le_of_lt kZ);rw [Int.mul_add,Int.mul_one] at this;omega
    ·intro c;have:=Int.mul_le_mul_of_nonneg_left (show bq (l++[x])+1≤bq (m++[y]) by omega) (Int.le_of_lt kZ);rw [Int.mul_add,Int.mul_one] at this;omega
 exact key l m hlm hl hm
def lW (y:Int):List Int→List Int→Int→List Int
 | o::os,x::l,c=>jk (o+x*y+c)::lW y os l (iM (o+x*y+c))
 | os,_,_=>os
theorem oM (y:Int):∀os l c,Words os→Words (lW y os l c)
 | o::os,x::l,c,h=>kN (fA _) (oM y os l _ h.tail)
 | [],_,_,h=>by simp [lW,Words]
 | _::_,[],_,h=>by simpa [lW] using h
theorem uq (y:Int):∀os l c,(lW y os l c).length=os.length
 | o::os,x::l,c=>by simp [lW,uq y os l]
 | [],_,_=>by simp [lW]
 | _::_,[],_=>by simp [lW]
theorem Eb {y:Int} (hy:0≤y):∀os l c,os.length≤l.length→0≤c→Words os→Words l→bq os+bq l*y+c<bB os.length→bq (lW y os l c)=bq os+bq l*y+c
 | [],l,c,_,hc,_,hl,h=>by
  have:=Int.mul_nonneg (mG l hl).1 hy;have e:bq (lW y [] l c)=0:=by cases l<;>simp [lW,bq]
  rw [e];simp only [bq,bB,List.length_nil] at h ⊢;omega
 | o::os,x::l,c,hlm,hc,hw,hv,h=>by
  have hs:0≤o+x*y+c:=by have:=hw.head.1;have:=Int.mul_nonneg hv.head.1 hy;omega
  have e:bq (o::os)+bq (x::l)*y+c=jk (o+x*y+c)+jL*(bq os+bq l*y+iM (o+x*y+c)):=by
   have:=nC (o+x*y+c);simp only [bq];have e1:(x+jL*bq l)*y=x*y+jL*(bq l*y):=by rw [Int.add_mul,Int.mul_assoc]
   rw [e1,Int.mul_add,Int.mul_add];omega
  rw [e] at h ⊢;simp only [List.length_cons,bB] at h;have:=(fA (o+x*y+c)).1;have h2:bq os+bq l*y+iM (o+x*y+c)<bB os.length:=nD (by omega);rw [lW,bq,Eb hy os l _ (by simpa using hlm) (mF hs) hw.tail hv.tail h2]
 | _::_,[],_,h,_,_,_,_=>by simp at h
def mulL (l:List Int):List Int→List Int→List Int
 | [],out=>out
 | y::m,out=>match lW y out l 0 with
  | []=>[]
  | o::os=>o::mulL l m os
theorem yO (l:List Int):∀m out,Words out→Words (mulL l m out)
 | [],out,h=>h
 | y::m,out,h=>by
  have h1:=oM y out l 0 h;unfold mulL
  cases hr:lW y out l 0 with
  | nil=>simp [Words]
  | cons o os=>
   rw [hr] at h1;exact kN h1.head (yO l m os h1.tail)
theorem EA (l:List Int):∀m out,(mulL l m out).length=out.length
 | [],out=>rfl
 | y::m,out=>by
  have h1:=uq y out l 0;unfold mulL
  cases hr:lW y out l 0 with
  | nil=>rw [hr] at h1;simpa using h1
  | cons o os=>
   rw [hr] at h1;simp only [List.length_cons,EA l m os];simpa using h1
theorem Ez {l:List Int} (hl:Words l):∀m out,out.length=m.length→m.length≤l.length→Words m→Words out→bq out+bq l*bq m<bB out.length→bq (mulL l m out)=bq out+bq l*bq m
 | [],out,h0,_,_,_,h=>by
  obtain rfl:out=[]:=List.eq_nil_of_length_eq_zero (by simpa using h0);simp [mulL,bq]
 | y::m,out,h0,h1,hm,ho,h=>by
  have hy:=hm.head.1;have a0:=(mG l hl).1;have a1:=(mG m hm.tail).1
  have e:bq l*bq (y::m)=bq l*y+jL*(bq l*bq m):=by
   simp only [bq];rw [Int.mul_add,←Int.mul_assoc,←Int.mul_assoc,Int.mul_comm jL]
  have a2:0≤bq l*bq m:=Int.mul_nonneg a0 a1;have a3:0≤jL*(bq l*bq m):=Int.mul_nonneg (Int.le_of_lt kZ) a2;have hr:=Eb hy out l 0 (by rw [h0];exact h1) (Int.le_refl _) ho hl (by rw [e] at h;omega);have hrl:=uq y out l 0;have hrw:=oM y out l 0 ho;unfold mulL
  cases hc:lW y out l 0 with
  | nil=>rw [hc,h0] at hrl;simp at hrl
  | cons o os=>
   rw [hc] at hr hrl hrw;rw [e];simp only [bq,Int.add_zero] at hr ⊢;have hol:os.length=m.length:=by simp at hrl h0;omega
   have hb:bq os+bq l*bq m<bB os.length:=by
    rw [e] at h;have e2:bB out.length=jL*bB os.length:=by rw [←hrl];rfl
    rw [e2] at h;refine nD ?_;rw [Int.mul_add];have:=hrw.head.1;omega
   rw [Ez hl m os hol (by simp at h1;omega) hm.tail hrw.tail hb,Int.mul_add];omega
end Go.Proofs.YtopmdeefcjdadaaGreat
namespace Go.Proofs.YtopmdeefcjdadaaGreat
open Go.RowKit
def dw (l:List Int):Array Value:=(l.map (fun x=>Value.int .u64 x)).toArray
def limbs:Nat→Int→List Int
 | 0,_=>[]
 | n+1,x=>jk x::limbs n (iM x)
theorem iE:∀n x,(limbs n x).length=n
 | 0,_=>rfl
 | n+1,x=>by simp [limbs,iE n]
theorem fE:∀n x,Words (limbs n x)
 | 0,_=>by simp [limbs,Words]
 | n+1,x=>kN (fA _) (fE n _)
theorem iC:∀n x,0≤x→x<bB n→bq (limbs n x)=x
 | 0,x,h0,h1=>by simp [bB] at h1;simp [limbs,bq];omega
 | n+1,x,h0,h1=>by
  have hs:=nC x;have h2:iM x<bB n:=nD (by have:=(fA x).1;simp only [bB] at h1;omega);rw [limbs,bq,iC n _ (mF h0) h2,hs]
theorem EI:∀l:List Int,Words l→limbs l.length (bq l)=l
 | [],_=>rfl
 | a::l,h=>by
  obtain ⟨h0,h1⟩:=(lF a).1 h.head;have hs:=nC (a+jL*bq l);have hr:=fA (a+jL*bq l);have hv:=(mG l h.tail).1;have e2:iM (a+jL*bq l)=bq l:=by unfold iM jL at *;omega
  have e1:jk (a+jL*bq l)=a:=by rw [e2] at hs;omega
  rw [List.length_cons,limbs,bq,e1,e2,EI l h.tail]
def gU (N:Int):Value:=.agg (dw (limbs 6 N))
theorem six {α:Type} {l:List α} (h:l.length=6):∃a b c d e f,l=[a,b,c,d,e,f]:=by
 match l,h with
 | [a,b,c,d,e,f],_=>exact ⟨a,b,c,d,e,f,rfl⟩
theorem uK {l:List Int} (h:l.length=6) (hw:Words l):gU (bq l)=.agg (dw l):=by
 unfold gU;rw [←h,EI l hw]
theorem jd {l:List Int} {i:Nat} (h:i<l.length):(dw l)[i]?=some (.int .u64 l[i]):=by simp [dw,h]
theorem rY (l:List Int) (i:Nat) (v:Int):(dw l).setIfInBounds i (.int .u64 v)=dw (l.set i v):=by simp [dw,List.map_set]
theorem OC (a b c d e f:Int) (w:World):(Instr.index 88 (.agg #[.int .u64 a,.int .u64 b,.int .u64 c,.int .u64 d,.int .u64 e,.int .u64 f]) (.int .i64 0)).run Tryz.prog w=.ok (.int .u64 a) w:=by kernel_rfl
theorem OB (a b c d e f:Int) (w:World):(Instr.index 88 (.agg #[.int .u64 a,.int .u64 b,.int .u64 c,.int .u64 d,.int .u64 e,.int .u64 f]) (.int .i64 1)).run Tryz.prog w=.ok (.int .u64 b) w:=by kernel_rfl
theorem OA (a b c d e f:Int) (w:World):(Instr.index 88 (.agg #[.int .u64 a,.int .u64 b,.int .u64 c,.int .u64 d,.int .u64 e,.int .u64 f]) (.int .i64 2)).run Tryz.prog w=.ok (.int .u64 c) w:=by kernel_rfl
theorem Oz (a b c d e f:Int) (w:World):(Instr.index 88 (.agg #[.int .u64 a,.int .u64 b,.int .u64 c,.int .u64 d,.int .u64 e,.int .u64 f]) (.int .i64 3)).run Tryz.prog w=.ok (.int .u64 d) w:=by kernel_rfl
theorem Oy (a b c d e f:Int) (w:World):(Instr.index 88 (.agg #[.int .u64 a,.int .u64 b,.int .u64 c,.int .u64 d,.int .u64 e,.int .u64 f]) (.int .i64 4)).run Tryz.prog w=.ok (.int .u64 e) w:=by kernel_rfl
theorem Ox (a b c d e f:Int) (w:World):(Instr.index 88 (.agg #[.int .u64 a,.int .u64 b,.int .u64 c,.int .u64 d,.int .u64 e,.int .u64 f]) (.int .i64 5)).run Tryz.prog w=.ok (.int .u64 f) w:=by kernel_rfl
theorem zi (a b c d e f:Int) (i:Nat) (hi:i<6) (w:World):(Instr.index 88 (.agg #[.int .u64 a,.int .u64 b,.int .u64 c,.int .u64 d,.int .u64 e,.int .u64 f]) (.int .i64 (i:Int))).run Tryz.prog w=.ok (.int .u64 ([a,b,c,d,e,f][i]'hi)) w:=by
 have h:i=0∨i=1∨i=2∨i=3∨i=4∨i=5:=by omega
 rcases h with rfl | rfl | rfl | rfl | rfl | rfl
 ·exact OC a b c d e f w
 ·exact OB a b c d e f w
 ·exact OA a b c d e f w
 ·exact Oz a b c d e f w
 ·exact Oy a b c d e f w
 ·exact Ox a b c d e f w
def jv (l:List Int):Int:=l.foldl (·*·) 1
theorem GL (l:List Int) (j:Nat) (h:j<l.length):jv (l.take (j+1))=jv (l.take j)*l[j]:=by
 unfold jv;rw [List.take_succ_eq_append_getElem h,List.foldl_append];rfl
theorem DN {x n c:Int} (hx:eH x) (hn:eH n) (hc:eH c):jk (jk (x*n)+c)=jk (x*n+c)∧IntKind.u64.wrap (iM (x*n)+iM (jk (x*n)+c))=iM (x*n+c):=by
 have h:=pE hx hn hc;have hp:0≤x*n:=Int.mul_nonneg hx.1 hn.1;generalize x*n=p at *;obtain ⟨c0,c1⟩:=hc;unfold eH at h;simp only [IntKind.wrap_u64];unfold iM jk at *;omega
theorem J9 {o x y c:Int} (ho:eH o) (hx:eH x) (hy:eH y) (hc:eH c) :
  jk (o+jk (jk (x*y)+c))=jk (o+x*y+c)∧IntKind.u64.wrap (iM (x*y)+iM (jk (x*y)+c))=iM (x*y+c)∧IntKind.u64.wrap (iM (x*y+c)+iM (o+jk (jk (x*y)+c)))=iM (o+x*y+c)∧eH (iM (x*y+c)):=by
 have h:=qX ho hx hy hc;have h':=pE hx hy hc;have hp:0≤x*y:=Int.mul_nonneg hx.1 hy.1;generalize x*y=p at *;obtain ⟨c0,c1⟩:=hc;obtain ⟨o0,o1⟩:=ho;unfold eH at *;simp only [IntKind.wrap_u64];unfold iM jk at *;omega
theorem hOf_any (n:Int) (h0:0≤n) (h1:n≤9223372036854775807) (w:World) :
  Calls Tryz.prog 64 #[.int .i64 n] w fun e w'=>e=.returned (gU n)∧Below w.heap.size w w':=by
 have HV:=ah (show gU n=.agg #[.int .u64 n,.int .u64 0,.int .u64 0,.int .u64 0,.int .u64 0,.int .u64 0] from by
  have e1:jk n=n:=Ol n ⟨h0,by omega⟩;have e2:iM n=0:=OX n ⟨h0,by omega⟩;unfold gU limbs limbs limbs limbs limbs limbs limbs;rw [e1,e2];rfl)
 have hw:IntKind.u64.wrap n=n:=IntWalk.u64_in _ (by omega);rw [HV.out];go_enter Tryz.func64,Tryz.ntmps64;go_wp2
 exact bodyPost_ret (v:=.agg #[.int .u64 n,.int .u64 0,.int .u64 0,.int .u64 0,.int .u64 0,.int .u64 0]) (by simp [results,Tryz.results64,go_sem]) rfl ⟨rfl,(Below.refl _ _).alloc (Nat.le_refl _) _⟩
def sF (n:Int) (l:List Int) (i:Nat) (cur:List Int) (c:Int):Prop:=eH c∧∃done,done.length=i∧cur=done++l.drop i∧kQ n l 0=done++kQ n (l.drop i) c
theorem zS (n:Int) (l:List Int):sF n l 0 l 0:=⟨⟨by decide,by decide⟩,[],rfl,rfl,rfl⟩
theorem BI {n:Int} {l:List Int} {i:Nat} {cur:List Int} {c:Int} (h:sF n l i cur c) (hi:i<l.length) (hl:Words l) (hn:eH n) :
  sF n l (i+1) (cur.set i (jk (l[i]*n+c))) (iM (l[i]*n+c)):=by
 obtain ⟨hc,done,h1,h2,h3⟩:=h;have hx:=hl _ (List.getElem_mem hi);refine ⟨pE hx hn hc,done++[jk (l[i]*n+c)],by simp [h1],?_,?_⟩
 ·rw [h2,List.set_append_right _ _ (by omega),h1,Nat.sub_self,List.drop_eq_getElem_cons hi,List.set_cons_zero,List.append_assoc];rfl
 ·rw [h3,List.drop_eq_getElem_cons hi,kQ];simp
theorem DT {n:Int} {l:List Int} {cur:List Int} {c:Int} (h:sF n l l.length cur c):cur=kQ n l 0:=by
 obtain ⟨hc,done,h1,h2,h3⟩:=h;rw [List.drop_length] at h2 h3;rw [h2,h3];simp [kQ]
theorem DR {n:Int} {l:List Int} {i:Nat} {cur:List Int} {c:Int} (h:sF n l i cur c) (hi:i≤l.length):cur.length=l.length:=by
 obtain ⟨hc,done,h1,h2,h3⟩:=h;rw [h2,List.length_append,List.length_drop,h1];omega
theorem zn (N:Int) (l:List Int) (b0 off cap:Nat) (w:World) (h0:0≤N) (hl:∀x∈l,0≤x∧x≤9223372036854775807) (hf:∀j,j≤l.length→N*jv (l.take j)<bB 6) (hb:b0<w.heap.size) (hc:∀i (h:i<l.length),w.cell? ⟨b0,off+i,none⟩=some (.int .i64 l[i])) (hlen:l.length≤1000) :
  Calls Tryz.prog 65 #[gU N,.slice (some ⟨b0,off,none⟩) l.length cap] w fun e w'=>e=.returned (gU (N*jv l))∧Below w.heap.size w w':=by
 have HC:=ah hc;have HL:=ah hl;have HF:=ah hf;have HST:=ah (fun j (h:j<l.length)=>GL l j h);have HW0:=ah (fE 6 N);have qp:=ah (iC 6 N h0 (by have:=hf 0 (Nat.zero_le _);rw [List.take_zero] at this;simpa [jv] using this));have Dq:=ah (show jv (l.take l.length)=jv l by rw [List.take_length]);have HP0:=ah (show jv (l.take 0)=1 from rfl);obtain ⟨a0,a1,a2,a3,a4,a5,hA⟩:=six (iE 6 N);unfold gU;rw [hA] at HW0 qp ⊢;clear hc hl hf h0 hA;have HT0:=ah (show aG ((w.alloc (.cells (dw [a0,a1,a2,a3,a4,a5]) 88)).alloc (.cells #[.int .u64 0,.int .u64 0,.int .u64 0,.int .u64 0,.int .u64 0,.int .u64 0] 88)) w.heap.size 88 (dw [a0,a1,a2,a3,a4,a5]) from (aG.new w _ _).alloc _)
 have zK:=ah (show aG ((w.alloc (.cells (dw [a0,a1,a2,a3,a4,a5]) 88)).alloc (.cells #[.int .u64 0,.int .u64 0,.int .u64 0,.int .u64 0,.int .u64 0,.int .u64 0] 88)) (w.heap.size+1) 88 #[.int .u64 0,.int .u64 0,.int .u64 0,.int .u64 0,.int .u64 0,.int .u64 0] from by
  have h:=aG.new (w.alloc (.cells (dw [a0,a1,a2,a3,a4,a5]) 88)) #[.int .u64 0,.int .u64 0,.int .u64 0,.int .u64 0,.int .u64 0,.int .u64 0] 88;simpa only [World.size_alloc] using h)
 have HB0:=ah (show Below w.heap.size w ((w.alloc (.cells (dw [a0,a1,a2,a3,a4,a5]) 88)).alloc (.cells #[.int .u64 0,.int .u64 0,.int .u64 0,.int .u64 0,.int .u64 0,.int .u64 0] 88)) from ((Below.refl _ _).alloc (Nat.le_refl _) _).alloc (by simp) _);have HZ0:=ah (show w.heap.size+2≤(((w.alloc (.cells (dw [a0,a1,a2,a3,a4,a5]) 88)).alloc (.cells #[.int .u64 0,.int .u64 0,.int .u64 0,.int .u64 0,.int .u64 0,.int .u64 0] 88))).heap.size by simp);have e0:dw [a0,a1,a2,a3,a4,a5]=#[.int .u64 a0,.int .u64 a1,.int .u64 a2,.int .u64 a3,.int .u64 a4,.int .u64 a5]:=rfl;rw [e0];go_enter Tryz.func65,Tryz.ntmps65;go_wp2_with fail;rw [e0] at HT0 zK HB0 HZ0;generalize hw0:((w.alloc (.cells #[.int .u64 a0,.int .u64 a1,.int .u64 a2,.int .u64 a3,.int .u64 a4,.int .u64 a5] 88)).alloc (.cells #[.int .u64 0,.int .u64 0,.int .u64 0,.int .u64 0,.int .u64 0,.int .u64 0] 88))=w1 at *;clear hw0;go_loopw [16] (fun i wx=>∃(j:Nat) (cur:List Int),j≤l.length∧i=.int .i64 j∧cur.length=6∧Hid (Words cur)∧Hid (bq cur=N*jv (l.take j))∧Hid (aG wx w.heap.size 88 (dw cur))∧Hid (aG wx (w.heap.size+1) 88 #[.int .u64 0,.int .u64 0,.int .u64 0,.int .u64 0,.int .u64 0,.int .u64 0])∧Hid (Below w.heap.size w wx)) (fun i _=>l.length-(intOf i).toNat)
 case atStart=>exact ⟨0,[a0,a1,a2,a3,a4,a5],Nat.zero_le _,rfl,rfl,HW0,ah (by rw [qp.out,HP0.out,Int.mul_one]),ah (by rw [e0];exact HT0.out),zK,HB0⟩
 case round=>
  clear HT0 zK HB0 HZ0 HW0 qp e0 HP0;obtain ⟨j,cur,hj,rfl,hcl,HWD,HVL,Dk,BA,dN⟩:=hrel;obtain ⟨c0,c1,c2,c3,c4,c5,rfl⟩:=six hcl;have e0:dw [c0,c1,c2,c3,c4,c5]=#[.int .u64 c0,.int .u64 c1,.int .u64 c2,.int .u64 c3,.int .u64 c4,.int .u64 c5]:=rfl;have ht:=Dk.out;rw [e0] at ht;have y0:=aG.cell (i:=0) ht rfl;have y1:=aG.cell (i:=1) ht rfl;have y2:=aG.cell (i:=2) ht rfl;have y3:=aG.cell (i:=3) ht rfl;have y4:=aG.cell (i:=4) ht rfl;have y5:=aG.cell (i:=5) ht rfl;have yl:=aG.lt ht;have hsz:=BA.out.lt;by_cases hlt:j<l.length
  ·have x0:=(dN.out.cell (p:=⟨b0,off+j,none⟩) hb).trans (HC.out j hlt);have hbr:b0<wr.heap.size:=by omega
   obtain ⟨n0,n1⟩:=HL.out _ (List.getElem_mem hlt);have IL:=ah (HST.out j hlt);have HFN:=ah (HF.out (j+1) (by omega));generalize l[j]=n at *;have a1:IntKind.u64.wrap n=n:=IntWalk.u64_in _ (by omega);have HN:=ah (show eH n from ⟨n0,by omega⟩);have HIX:=ah (fun i hi=>zi c0 c1 c2 c3 c4 c5 i hi);have HS0:=ah (zS n [c0,c1,c2,c3,c4,c5]);clear ht;go_wp2_with fail;clear x0 y0 y1 y2 y3 y4 y5 yl;obtain ⟨wo,rfl⟩:∃wo:World,wo=wr:=⟨_,rfl⟩;go_loopw [21,7] (fun i c wx=>∃(k:Nat) (cur:List Int) (cc:Int),k≤6∧i=.int .i64 k∧c=.int .u64 cc∧Hid (sF n [c0,c1,c2,c3,c4,c5] k cur cc)∧Hid (aG wx w.heap.size 88 (dw cur))∧Hid (aG wx (w.heap.size+1) 88 #[.int .u64 0,.int .u64 0,.int .u64 0,.int .u64 0,.int .u64 0,.int .u64 0])∧Hid (Below w.heap.size w wx)) (fun i _ _=>6-(intOf i).toNat)
   case atStart=>exact ⟨0,_,0,by omega,rfl,rfl,HS0,Dk,BA,dN⟩
   case round=>
    clear Dk BA dN;obtain ⟨k,cur,cc,hk,rfl,rfl,qw,Dk,BA,dN⟩:=hrel;by_cases sM:k<6
    ·have hk6':(k:Int)<6:=by omega
     have hix:=HIX.out k sM;have hlen:=DR qw.out (by simpa using hk);have hx:eH ([c0,c1,c2,c3,c4,c5][k]'(by simpa using sM)):=HWD.out _ (List.getElem_mem _);have uU:=ah (BI qw.out (by simpa using sM) HWD.out HN.out);generalize [c0,c1,c2,c3,c4,c5][k]'(by simpa using sM)=x at *;have hcc:=qw.out.1;obtain ⟨q1,q2⟩:=DN hx HN.out hcc;have hcw:=pE hx HN.out hcc;have HM:=ah (fun W=>mul64 x n hx HN.out W);have hlo:=fA (x*n);have hadd:=fun W=>CG (jk (x*n)) cc hlo hcc W;rw [q1] at hadd;generalize jk (x*n+cc)=sv at *;generalize iM (x*n+cc)=cv at *;generalize iM (jk (x*n)+cc)=kv at *;generalize iM (x*n)=hv at *;generalize jk (x*n)=lv at *;obtain ⟨zv,z0⟩:∃zv,wr.cell? ⟨w.heap.size,k,none⟩=some (.int .u64 zv):=⟨_,Dk.out.cell (jd (by rw [hlen];simpa using sM))⟩;have zf:=Dk.out.frozen k;have zl:=Dk.out.lt;have HT2:=ah (Dk.out.set k (.int .u64 sv));rw [rY] at HT2;have HR2:=ah (BA.out.setOther (b':=w.heap.size) (i:=k) (by omega) (.int .u64 sv));have HB2:=ah (dN.out.setCell (p:=⟨w.heap.size,k,none⟩) (Nat.le_refl _) (.int .u64 sv));clear Dk BA dN qw q1 hx hcc hcw hlo hlen;go_wp2_with (first | (go_at_call 95;refine (HM.out _).mono ?_;rintro e w' ⟨rfl,rfl⟩) | fail);go_roundw
     case rel=>exact ⟨k+1,_,cv,by omega,by first | rfl | go_num,rfl,uU,HT2,HR2,HB2⟩
     case measure=>simp [intOf];omega
    ·have hkk:k=6:=by omega
     subst hkk;have HE:=ah (DT qw.out);have HW2:=ah (show Words cur by rw [HE.out];exact uh _ _ _);have HL2:cur.length=6:=by rw [HE.out,xY];rfl
     have HV2:=ah (show bq cur=N*jv (l.take (j+1)) by
      rw [HE.out,xX n0 _ _ (Int.le_refl _) HWD.out (by rw [HVL.out,Int.add_zero,Int.mul_assoc,←IL.out];exact HFN.out),HVL.out,Int.add_zero,Int.mul_assoc,←IL.out])
     go_wp2_with fail;go_roundw
     case rel=>exact ⟨j+1,cur,by omega,by first | rfl | go_num,HL2,HW2,HV2,Dk,BA,dN⟩
     case measure=>simp [intOf];omega
  ·have hjj:j=l.length:=by omega
   subst hjj
   have HV:=ah (show gU (N*jv l)=.agg #[.int .u64 c0,.int .u64 c1,.int .u64 c2,.int .u64 c3,.int .u64 c4,.int .u64 c5] by
    rw [←Dq.out,←HVL.out,uK rfl HWD.out,e0])
   have hr:=BA.out;have r0:=aG.cell (i:=0) hr rfl;have r1:=aG.cell (i:=1) hr rfl;have r2:=aG.cell (i:=2) hr rfl;have r3:=aG.cell (i:=3) hr rfl;have r4:=aG.cell (i:=4) hr rfl;have r5:=aG.cell (i:=5) hr rfl;have rf0:=aG.frozen hr 0;have rf1:=aG.frozen hr 1;have rf2:=aG.frozen hr 2;have rf3:=aG.frozen hr 3;have rf4:=aG.frozen hr 4;have rf5:=aG.frozen hr 5;have gV:=ah ((((((dN.out.setCell (p:=⟨w.heap.size+1,0,none⟩) (by simp) (.int .u64 c0)).setCell (p:=⟨w.heap.size+1,1,none⟩) (by simp) (.int .u64 c1)).setCell (p:=⟨w.heap.size+1,2,none⟩) (by simp) (.int .u64 c2)).setCell (p:=⟨w.heap.size+1,3,none⟩) (by simp) (.int .u64 c3)).setCell (p:=⟨w.heap.size+1,4,none⟩) (by simp) (.int .u64 c4)).setCell (p:=⟨w.heap.size+1,5,none⟩) (by simp) (.int .u64 c5));clear hr ht;go_wp2_with fail;exact bodyPost_ret (v:=.agg #[.int .u64 c0,.int .u64 c1,.int .u64 c2,.int .u64 c3,.int .u64 c4,.int .u64 c5]) (by simp [results,Tryz.results65,go_sem,r0,r1,r2,r3,r4,r5]) rfl ⟨congrArg Ending.returned HV.out.symm,gV.out⟩
def tT (l m:List Int) (i:Nat) (cur:List Int) (c:Int):Prop:=(0≤c∧c≤1)∧∃done,done.length=i∧cur=done++l.drop i∧lD l m 0=done++lD (l.drop i) (m.drop i) c
theorem Dg (l m:List Int):tT l m 0 l 0:=⟨⟨by decide,by decide⟩,[],rfl,rfl,rfl⟩
theorem IC {x y c:Int} (hx:eH x) (hy:eH y) (hc:0≤c∧c≤1):0≤iM (x+y+c)∧iM (x+y+c)≤1:=by
 unfold eH at *;unfold iM;omega
theorem Fw {l m:List Int} {i:Nat} {cur:List Int} {c:Int} (h:tT l m i cur c) (hi:i<l.length) (hm:i<m.length) (hl:Words l) (hw:Words m) :
  tT l m (i+1) (cur.set i (jk (l[i]+m[i]+c))) (iM (l[i]+m[i]+c)):=by
 obtain ⟨hc,done,h1,h2,h3⟩:=h;have hx:=hl _ (List.getElem_mem hi);have hy:=hw _ (List.getElem_mem hm);refine ⟨IC hx hy hc,done++[jk (l[i]+m[i]+c)],by simp [h1],?_,?_⟩
 ·rw [h2,List.set_append_right _ _ (by omega),h1,Nat.sub_self,List.drop_eq_getElem_cons hi,List.set_cons_zero,List.append_assoc];rfl
 ·rw [h3,List.drop_eq_getElem_cons hi,List.drop_eq_getElem_cons hm,lD];simp
theorem II {l m:List Int} {cur:List Int} {c:Int} (h:tT l m l.length cur c) (hlm:l.length=m.length):cur=lD l m 0:=by
 obtain ⟨hc,done,h1,h2,h3⟩:=h;have e:lD [] (m.drop l.length) c=[]:=by unfold lD;rfl
 rw [List.drop_length] at h2 h3;rw [h2,h3,e]
theorem IE {l m:List Int} {i:Nat} {cur:List Int} {c:Int} (h:tT l m i cur c) (hi:i≤l.length):cur.length=l.length:=by
 obtain ⟨hc,done,h1,h2,h3⟩:=h;rw [h2,List.length_append,List.length_drop,h1];omega
theorem IG {l m:List Int} {i:Nat} {cur:List Int} {c:Int} (h:tT l m i cur c) (hi:i<l.length) (hc:i<cur.length):cur[i]=l[i]:=by
 obtain ⟨_,done,h1,h2,_⟩:=h;subst h2;rw [List.getElem_append_right (by omega),List.getElem_drop];congr 1
 omega
theorem Li (N M:Int) (w:World) (hN:0≤N) (hM:0≤M) (hf:N+M<bB 6) :
  Calls Tryz.prog 69 #[gU N,gU M] w fun e w'=>e=.returned (gU (N+M))∧Below w.heap.size w w':=by
 have Bz:=ah (fE 6 N);have Bw:=ah (fE 6 M);have Dz:=ah (iC 6 N (by omega) (by omega));have Dy:=ah (iC 6 M (by omega) (by omega));have HF:=ah hf;have HNN:=ah hN;obtain ⟨a0,a1,a2,a3,a4,a5,hA⟩:=six (iE 6 N);obtain ⟨b0,b1,b2,b3,b4,b5,hB⟩:=six (iE 6 M)
 have HG:=ah (show gU (N+M)=.agg (dw (lD [a0,a1,a2,a3,a4,a5] [b0,b1,b2,b3,b4,b5] 0)) from by
  rw [hA] at Bz Dz;rw [hB] at Bw Dy;have h1:=AR [a0,a1,a2,a3,a4,a5] [b0,b1,b2,b3,b4,b5] 0 rfl (Int.le_refl _) Bz.out Bw.out (by rw [Dz.out,Dy.out,Int.add_zero];exact hf);rw [Dz.out,Dy.out,Int.add_zero] at h1;rw [←h1];exact uK (AU _ _ _ rfl) (wT _ _ _))
 rw [HG.out];unfold gU;rw [hA] at Bz Dz ⊢;rw [hB] at Bw Dy ⊢;clear hf hN hM hA hB HG;have qw:=ah (show aG (((w.alloc (.cells #[.int .u64 a0,.int .u64 a1,.int .u64 a2,.int .u64 a3,.int .u64 a4,.int .u64 a5] 88)).alloc (.cells #[.int .u64 b0,.int .u64 b1,.int .u64 b2,.int .u64 b3,.int .u64 b4,.int .u64 b5] 88)).alloc (.cells #[.int .u64 0,.int .u64 0,.int .u64 0,.int .u64 0,.int .u64 0,.int .u64 0] 88)) w.heap.size 88 (dw [a0,a1,a2,a3,a4,a5]) from ((aG.new w _ _).alloc _).alloc _)
 have wL:=ah (show aG (((w.alloc (.cells #[.int .u64 a0,.int .u64 a1,.int .u64 a2,.int .u64 a3,.int .u64 a4,.int .u64 a5] 88)).alloc (.cells #[.int .u64 b0,.int .u64 b1,.int .u64 b2,.int .u64 b3,.int .u64 b4,.int .u64 b5] 88)).alloc (.cells #[.int .u64 0,.int .u64 0,.int .u64 0,.int .u64 0,.int .u64 0,.int .u64 0] 88)) (w.heap.size+1) 88 #[.int .u64 b0,.int .u64 b1,.int .u64 b2,.int .u64 b3,.int .u64 b4,.int .u64 b5] from by
  have h:=(aG.new (w.alloc (.cells #[.int .u64 a0,.int .u64 a1,.int .u64 a2,.int .u64 a3,.int .u64 a4,.int .u64 a5] 88)) #[.int .u64 b0,.int .u64 b1,.int .u64 b2,.int .u64 b3,.int .u64 b4,.int .u64 b5] 88).alloc (.cells #[.int .u64 0,.int .u64 0,.int .u64 0,.int .u64 0,.int .u64 0,.int .u64 0] 88);simpa only [World.size_alloc] using h)
 have zH:=ah (show aG (((w.alloc (.cells #[.int .u64 a0,.int .u64 a1,.int .u64 a2,.int .u64 a3,.int .u64 a4,.int .u64 a5] 88)).alloc (.cells #[.int .u64 b0,.int .u64 b1,.int .u64 b2,.int .u64 b3,.int .u64 b4,.int .u64 b5] 88)).alloc (.cells #[.int .u64 0,.int .u64 0,.int .u64 0,.int .u64 0,.int .u64 0,.int .u64 0] 88)) (w.heap.size+2) 88 #[.int .u64 0,.int .u64 0,.int .u64 0,.int .u64 0,.int .u64 0,.int .u64 0] from by
  have h:=aG.new ((w.alloc (.cells #[.int .u64 a0,.int .u64 a1,.int .u64 a2,.int .u64 a3,.int .u64 a4,.int .u64 a5] 88)).alloc (.cells #[.int .u64 b0,.int .u64 b1,.int .u64 b2,.int .u64 b3,.int .u64 b4,.int .u64 b5] 88)) #[.int .u64 0,.int .u64 0,.int .u64 0,.int .u64 0,.int .u64 0,.int .u64 0] 88;simpa only [World.size_alloc] using h)
 have HB0:=ah (show Below w.heap.size w (((w.alloc (.cells #[.int .u64 a0,.int .u64 a1,.int .u64 a2,.int .u64 a3,.int .u64 a4,.int .u64 a5] 88)).alloc (.cells #[.int .u64 b0,.int .u64 b1,.int .u64 b2,.int .u64 b3,.int .u64 b4,.int .u64 b5] 88)).alloc (.cells #[.int .u64 0,.int .u64 0,.int .u64 0,.int .u64 0,.int .u64 0,.int .u64 0] 88)) from (((Below.refl _ _).alloc (Nat.le_refl _) _).alloc (by simp) _).alloc (by simp;omega) _);have eA:dw [a0,a1,a2,a3,a4,a5]=#[.int .u64 a0,.int .u64 a1,.int .u64 a2,.int .u64 a3,.int .u64 a4,.int .u64 a5]:=rfl;have eB:dw [b0,b1,b2,b3,b4,b5]=#[.int .u64 b0,.int .u64 b1,.int .u64 b2,.int .u64 b3,.int .u64 b4,.int .u64 b5]:=rfl;rw [eA,eB];have HS0:=ah (Dg [a0,a1,a2,a3,a4,a5] [b0,b1,b2,b3,b4,b5]);go_enter Tryz.func69,Tryz.ntmps69;go_wp2_with fail;generalize hw0:(((w.alloc (.cells #[.int .u64 a0,.int .u64 a1,.int .u64 a2,.int .u64 a3,.int .u64 a4,.int .u64 a5] 88)).alloc (.cells #[.int .u64 b0,.int .u64 b1,.int .u64 b2,.int .u64 b3,.int .u64 b4,.int .u64 b5] 88)).alloc (.cells #[.int .u64 0,.int .u64 0,.int .u64 0,.int .u64 0,.int .u64 0,.int .u64 0] 88))=w1 at *;clear hw0;go_loopw [7,5] (fun i c wx=>∃(k:Nat) (cur:List Int) (cc:Int),k≤6∧i=.int .i64 k∧c=.int .u64 cc∧Hid (tT [a0,a1,a2,a3,a4,a5] [b0,b1,b2,b3,b4,b5] k cur cc)∧Hid (aG wx w.heap.size 88 (dw cur))∧Hid (aG wx (w.heap.size+1) 88 #[.int .u64 b0,.int .u64 b1,.int .u64 b2,.int .u64 b3,.int .u64 b4,.int .u64 b5])∧Hid (aG wx (w.heap.size+2) 88 #[.int .u64 0,.int .u64 0,.int .u64 0,.int .u64 0,.int .u64 0,.int .u64 0])∧Hid (Below w.heap.size w wx)) (fun i _ _=>6-(intOf i).toNat)
 case atStart=>exact ⟨0,_,0,by omega,rfl,rfl,HS0,qw,wL,zH,HB0⟩
 case round=>
  clear qw wL zH HB0 HS0;obtain ⟨k,cur,cc,hk,rfl,rfl,HA,qw,wL,zH,dN⟩:=hrel;have hlen:=IE HA.out (by simpa using hk);have hrl:=zH.out.lt;by_cases sM:k<6
  ·have hk6':(k:Int)<6:=by omega
   have hx:eH ([a0,a1,a2,a3,a4,a5][k]'(by simpa using sM)):=Bz.out _ (List.getElem_mem _);have hy:eH ([b0,b1,b2,b3,b4,b5][k]'(by simpa using sM)):=Bw.out _ (List.getElem_mem _);have uU:=ah (Fw HA.out (by simpa using sM) (by simpa using sM) Bz.out Bw.out);have hcc:=HA.out.1
   have z0:wr.cell? ⟨w.heap.size,k,none⟩=some (.int .u64 ([a0,a1,a2,a3,a4,a5][k]'(by simpa using sM))):=by
    have h:=qw.out.cell (jd (i:=k) (by rw [hlen];simpa using sM));rw [IG HA.out (by simpa using sM)] at h;exact h
   have z1:wr.cell? ⟨w.heap.size+1,k,none⟩=some (.int .u64 ([b0,b1,b2,b3,b4,b5][k]'(by simpa using sM))):=aG.cell (show aG wr _ _ (dw [b0,b1,b2,b3,b4,b5]) from wL.out) (jd (i:=k) (by simpa using sM));have zf:=qw.out.frozen k;generalize [a0,a1,a2,a3,a4,a5][k]'(by simpa using sM)=x at *;generalize [b0,b1,b2,b3,b4,b5][k]'(by simpa using sM)=y at *;have hadd:=fun W=>add64 x y cc hx hy hcc.1 hcc.2 W;generalize jk (x+y+cc)=sv at *;generalize iM (x+y+cc)=cv at *;have HT2:=ah (qw.out.set k (.int .u64 sv));rw [rY] at HT2;have HTB2:=ah (wL.out.setOther (b':=w.heap.size) (i:=k) (by omega) (.int .u64 sv));have P8:=ah (zH.out.setOther (b':=w.heap.size) (i:=k) (by omega) (.int .u64 sv));have HB2:=ah (dN.out.setCell (p:=⟨w.heap.size,k,none⟩) (Nat.le_refl _) (.int .u64 sv));have HT3:=ah (show aG (wr.setCell ⟨w.heap.size,k,none⟩ (.int .u64 sv)).drew w.heap.size 88 (dw (cur.set k sv)) from HT2.out);have HTB3:=ah (show aG (wr.setCell ⟨w.heap.size,k,none⟩ (.int .u64 sv)).drew (w.heap.size+1) 88 #[.int .u64 b0,.int .u64 b1,.int .u64 b2,.int .u64 b3,.int .u64 b4,.int .u64 b5] from HTB2.out);have HTR3:=ah (show aG (wr.setCell ⟨w.heap.size,k,none⟩ (.int .u64 sv)).drew (w.heap.size+2) 88 #[.int .u64 0,.int .u64 0,.int .u64 0,.int .u64 0,.int .u64 0,.int .u64 0] from P8.out);have HB3:=ah HB2.out.drew;clear HA hx hy hcc hlen;go_wp2_with fail;go_region
   go_wp2_with fail;go_roundw
   case rel=>exact ⟨k+1,_,cv,by omega,by first | rfl | go_num,rfl,uU,HT3,HTB3,HTR3,HB3⟩
   case measure=>simp [intOf];omega
  ·have hkk:k=6:=by omega
   subst hkk;have HE:=ah (II HA.out rfl);obtain ⟨c0,c1,c2,c3,c4,c5,rfl⟩:=six hlen;have ht:=qw.out;have e0:dw [c0,c1,c2,c3,c4,c5]=#[.int .u64 c0,.int .u64 c1,.int .u64 c2,.int .u64 c3,.int .u64 c4,.int .u64 c5]:=rfl;rw [e0] at ht;have y0:=aG.cell (i:=0) ht rfl;have y1:=aG.cell (i:=1) ht rfl;have y2:=aG.cell (i:=2) ht rfl;have y3:=aG.cell (i:=3) ht rfl;have y4:=aG.cell (i:=4) ht rfl;have y5:=aG.cell (i:=5) ht rfl;have yl:=aG.lt ht;have hr:=zH.out;have r0:=aG.cell (i:=0) hr rfl;have r1:=aG.cell (i:=1) hr rfl;have r2:=aG.cell (i:=2) hr rfl;have r3:=aG.cell (i:=3) hr rfl;have r4:=aG.cell (i:=4) hr rfl;have r5:=aG.cell (i:=5) hr rfl;have rf0:=aG.frozen hr 0;have rf1:=aG.frozen hr 1;have rf2:=aG.frozen hr 2;have rf3:=aG.frozen hr 3;have rf4:=aG.frozen hr 4;have rf5:=aG.frozen hr 5;have gV:=ah ((((((dN.out.setCell (p:=⟨w.heap.size+2,0,none⟩) (by simp) (.int .u64 c0)).setCell (p:=⟨w.heap.size+2,1,none⟩) (by simp) (.int .u64 c1)).setCell (p:=⟨w.heap.size+2,2,none⟩) (by simp) (.int .u64 c2)).setCell (p:=⟨w.heap.size+2,3,none⟩) (by simp) (.int .u64 c3)).setCell (p:=⟨w.heap.size+2,4,none⟩) (by simp) (.int .u64 c4)).setCell (p:=⟨w.heap.size+2,5,none⟩) (by simp) (.int .u64 c5));clear hr ht;go_wp2_with fail;exact bodyPost_ret (v:=.agg #[.int .u64 c0,.int .u64 c1,.int .u64 c2,.int .u64 c3,.int .u64 c4,.int .u64 c5]) (by simp [results,Tryz.results69,go_sem,r0,r1,r2,r3,r4,r5]) rfl ⟨by rw [←HE.out];rfl,gV.out⟩
end Go.Proofs.YtopmdeefcjdadaaGreat
