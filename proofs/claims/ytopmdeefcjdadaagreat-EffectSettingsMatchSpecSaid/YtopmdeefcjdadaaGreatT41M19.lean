import Derived.Test.YtopmdeefcjdadaaGreatT41M00
import Derived.Test.YtopmdeefcjdadaaGreatT41M18
import Derived.Test.YtopmdeefcjdadaaGreatT41M02
import Derived.Test.YtopmdeefcjdadaaGreatT41M15
import Derived.Test.YtopmdeefcjdadaaGreatT41M03
import Derived.Test.YtopmdeefcjdadaaGreatT41M06
import Derived.Test.YtopmdeefcjdadaaGreatT41M11
set_option linter.unusedVariables false
set_option linter.unusedSimpArgs false
set_option maxRecDepth 100000
set_option maxHeartbeats 32000000
namespace Go.Proofs.YtopmdeefcjdadaaGreat
open Go.RowKit
def nS (aJ av:Int) (l:List Stp) (c pn pd pk aK:Int):Int×Int:=
 if aJ=1 then (aS pn pd,pd) else if aJ=2 then (pn,pd) else if aJ=3 then (pd-pn,pd) else if aJ=4 then (pW av pn pd,1)
 else if aJ=5 then (aS pn pd*(aS pn pd*(3*pd-2*aS pn pd)),pd*(pd*pd)) else if aJ=6 then (nU aK pk,65536) else gX l (pn*c) pd l.length 0 0
def lJ (x:Int×Int):Prop:=0≤x.1∧x.1≤x.2∧1≤x.2∧x.2≤1000000000000000000*(1000000000000000000*1000000000000000000)
theorem soft_ok {u d:Int} (h0:0≤u) (h1:u≤d):0≤u*(u*(3*d-2*u))∧u*(u*(3*d-2*u))≤d*(d*d):=by
 refine ⟨Int.mul_nonneg h0 (Int.mul_nonneg h0 (by omega)),?_⟩;obtain ⟨x,rfl⟩:∃x,d=u+x:=⟨d-u,by omega⟩;have hx:0≤x:=by omega
 have e:(u+x)*((u+x)*(u+x))=u*(u*(3*(u+x)-2*u))+(3*(u*(x*x))+x*(x*x)):=by grind
 have h2:0≤u*(x*x):=Int.mul_nonneg h0 (Int.mul_nonneg hx hx);have h3:0≤x*(x*x):=Int.mul_nonneg hx (Int.mul_nonneg hx hx);omega
theorem ND {L:List Stp} (hL:0<L.length) (hA:∀k (h:k<L.length),(0≤L[k].lv∧L[k].lv≤65535)∧(0≤L[k].hold∧L[k].hold≤3600000)∧0≤L[k].bD∧L[k].bD≤3600000) {p d:Int} (hd:1≤d) (Du:d≤1000000000000000) :
  ∀(c j:Nat) (b:Int),j+c=L.length→lJ (gX L p d c j b)
 | 0,j,b,_=>by unfold gX lJ;simp
 | c+1,j,b,h=>by
  have hj:j<L.length:=by omega
  have hn:(j+1) % L.length<L.length:=Nat.mod_lt _ hL;obtain ⟨⟨l0,l1⟩,⟨h0,h1⟩,f0,f1⟩:=hA j hj;obtain ⟨⟨m0,m1⟩,_⟩:=hA _ hn;unfold gX;rw [nZ hj,nZ hn];split
  ·unfold lJ;simp only;omega
  ·split
   ·rename_i g1 g2
    have hadd:d*(b+L[j].hold+L[j].bD)=d*(b+L[j].hold)+d*L[j].bD:=Int.mul_add _ _ _;have hw:d*L[j].bD≤1000000000000000*3600000:=Int.le_trans (Int.mul_le_mul_of_nonneg_right Du f0) (Int.mul_le_mul_of_nonneg_left f1 (by omega));have hz0:0≤p-d*(b+L[j].hold):=by omega
    have xL:p-d*(b+L[j].hold)<d*L[j].bD:=by omega
    generalize d*L[j].bD=wh at *;generalize p-d*(b+L[j].hold)=zz at *;have k1:0≤(wh-zz)*L[j].lv:=Int.mul_nonneg (by omega) l0;have k2:0≤zz*L[(j+1) % L.length].lv:=Int.mul_nonneg hz0 m0;have k3:(wh-zz)*L[j].lv≤(wh-zz)*65535:=Int.mul_le_mul_of_nonneg_left l1 (by omega);have k4:zz*L[(j+1) % L.length].lv≤zz*65535:=Int.mul_le_mul_of_nonneg_left m1 hz0;unfold lJ;simp only;omega
   ·exact ND hL hA hd Du c (j+1) _ (by omega)
theorem MX {aJ av:Int} {l:List Stp} {c pn pd pk aK:Int} (hf:1≤aJ∧aJ≤7) (h7:aJ=7→0<l.length) (hall:l.all fJ=true) (n0:0≤pn) (n1:pn≤pd) (d0:1≤pd) (d1:pd≤1000000000000000):lJ (nS aJ av l c pn pd pk aK):=by
 obtain ⟨p0,p1⟩:=qI n0 n1;have hA:=fun k (h:k<l.length)=>rP (List.all_eq_true.1 hall _ (List.getElem_mem h));unfold nS;by_cases h:aJ=7
 ·subst h;rw [if_neg (by decide),if_neg (by decide),if_neg (by decide),if_neg (by decide),if_neg (by decide),if_neg (by decide)];exact ND (h7 rfl) hA d0 d1 _ _ _ (by omega)
 by_cases h1:aJ=1
 ·rw [if_pos h1];unfold lJ;simp only;omega
 rw [if_neg h1];by_cases h2:aJ=2
 ·rw [if_pos h2];unfold lJ;simp only;omega
 rw [if_neg h2];by_cases h3:aJ=3
 ·rw [if_pos h3];unfold lJ;simp only;omega
 rw [if_neg h3];by_cases h4:aJ=4
 ·rw [if_pos h4];unfold lJ pW;simp only;split<;>omega
 rw [if_neg h4];by_cases h5:aJ=5
 ·rw [if_pos h5];obtain ⟨s0,s1⟩:=soft_ok p0 p1;have k1:=dA (a:=pd) (b:=pd) (A:=1000000000000000) (B:=1000000000000000) (by omega) (by omega) (by omega) (by omega);have k2:=dA (a:=pd) (b:=pd*pd) (A:=1000000000000000) (B:=1000000000000000*1000000000000000) (by omega) k1.1 (by omega) k1.2
  have k3:1≤pd*(pd*pd):=by
   have a1:1*1≤pd*pd:=Int.mul_le_mul d0 d0 (by omega) (by omega);have a2:1*(1*1)≤pd*(pd*pd):=Int.mul_le_mul d0 a1 (by omega) (by omega);omega
  unfold lJ;simp only;exact ⟨s0,Int.le_trans s1 (Int.le_refl _),k3,by omega⟩
 rw [if_neg h5,if_pos (by omega)];obtain ⟨c0,c1⟩:=sw aK pk;unfold lJ;simp only;omega
theorem vW {aJ low aC ay av ak:Int} {l:List Stp} (h:dD aJ low aC ay av ak l=0) :
  (1≤aJ∧aJ≤7)∧(0≤low∧low≤65535)∧(0≤aC∧aC≤65535)∧low≤aC∧(0≤ay∧ay≤3600000)∧(0≤av∧av≤1000)∧(-10000≤ak∧ak≤10000)∧l.length≤50∧l.all fJ=true∧(aJ≠7→l.length=0)∧(aJ=7→ay=0):=by
 have e0:1≤aJ∧aJ≤7:=by
  by_cases c:bU aJ 1 7=true
  ·simpa [bU] using c
  ·simp [dD,dW,c] at h
 by_cases f7:aJ=7
 ·subst f7;simp only [dD,dW] at h;have fb:bU 7 1 7=true:=by decide
  rw [fb] at h;simp only [Bool.not_true,Bool.false_eq_true,if_false,beq_self_eq_true,Bool.true_and,Bool.not_false,Bool.false_and,Bool.or_false] at h;split at h
  ·omega
  ·rename_i h1
   split at h
   ·omega
   ·rename_i h2
    split at h
    ·omega
    ·rename_i h3
     split at h
     ·omega
     ·split at h
      ·omega
      ·rename_i h5
       split at h
       ·omega
       ·rename_i h6
        simp [bU] at h1 h2 h3 h5 h6;have hc:ay=0:=by omega
        refine ⟨e0,by omega,by omega,by omega,by omega,by omega,by omega,by omega,by simpa using h6,by omega,fun _=>hc⟩
 ·simp only [dD,dW] at h;have fb:bU aJ 1 7=true:=by simpa [bU] using e0
  have g7:(aJ==7)=false:=by simpa using f7
  rw [fb,g7] at h;simp only [Bool.not_true,Bool.false_eq_true,if_false,Bool.false_and,Bool.or_false,Bool.not_false,Bool.true_and] at h;split at h
  ·omega
  ·rename_i h1
   split at h
   ·omega
   ·rename_i h2
    split at h
    ·omega
    ·rename_i h3
     simp [bU] at h1 h2 h3
     have hl:l.length=0:=by
      have:=h1.2;simpa using this
     have hn:l=[]:=List.length_eq_zero_iff.1 hl;refine ⟨e0,by omega,by omega,by omega,by omega,by omega,by omega,by omega,by rw [hn];rfl,fun _=>hl,fun h=>absurd h f7⟩
def zy (n:Int):Int:=if n<0 then 0 else if 65535<n then 65535 else n
theorem uN {N D r:Int} (hD:0<D) (r0:0≤r) (r1:r≤65535) (h1:0<r→r*D≤N) (h2:r<65535→N<(r+1)*D):r=zy (N / D):=by
 unfold zy;by_cases c:N / D<0
 ·rw [if_pos c];by_cases d:0<r
  ·have:=(Int.le_ediv_iff_mul_le hD).2 (h1 d);omega
  ·omega
 ·rw [if_neg c];by_cases d:65535<N / D
  ·rw [if_pos d];by_cases e:r<65535
   ·have:=(Int.ediv_lt_iff_lt_mul hD).2 (h2 e);omega
   ·omega
  ·rw [if_neg d]
   have a1:r≤N / D:=by
    by_cases e:0<r
    ·exact (Int.le_ediv_iff_mul_le hD).2 (h1 e)
    ·omega
   have a2:N / D≤r:=by
    by_cases e:r<65535
    ·have:=(Int.ediv_lt_iff_lt_mul hD).2 (h2 e);omega
    ·omega
   omega
def ED (rel:Bool) (low aC b:Int) (w s:Int×Int):Int:=
 if rel then w.2*s.2*(2*b)+s.1*w.1*(2*(aC-low))+w.2*s.2-s.1*w.2*(aC-low)
 else ((s.2-s.1)*w.2*b+s.1*(w.2*low+w.1*(aC-low)))*2+w.2*s.2
def sI (rel:Bool) (low aC b:Int) (w s:Int×Int):Int:=zy (ED rel low aC b w s / (2*(w.2*s.2)))
theorem Od {low aC b:Int} {w s:Int×Int} {r:Int} (hd:0<w.2*s.2) (r0:0≤r) (r1:r≤65535)
  (h1:0<r→¬w.2*s.2*(2*b)+s.1*w.1*(2*(aC-low))+w.2*s.2<w.2*s.2*(2*r)+s.1*w.2*(aC-low))
  (h2:r<65535→w.2*s.2*(2*b)+s.1*w.1*(2*(aC-low))+w.2*s.2<w.2*s.2*(2*(r+1))+s.1*w.2*(aC-low)):r=sI true low aC b w s:=by
 unfold sI;refine uN (by omega) r0 r1 (fun h=>?_) (fun h=>?_)
 ·have:=h1 h;simp only [ED,if_true];have e:r*(2*(w.2*s.2))=w.2*s.2*(2*r):=by grind
  omega
 ·have:=h2 h;simp only [ED,if_true];have e:(r+1)*(2*(w.2*s.2))=w.2*s.2*(2*(r+1)):=by grind
  omega
theorem Oe {low aC b:Int} {w s:Int×Int} {r:Int} (hd:0<w.2*s.2) (r0:0≤r) (r1:r≤65535)
  (h1:0<r→¬((s.2-s.1)*w.2*b+s.1*(w.2*low+w.1*(aC-low)))*2+w.2*s.2<w.2*s.2*(2*r))
  (h2:r<65535→((s.2-s.1)*w.2*b+s.1*(w.2*low+w.1*(aC-low)))*2+w.2*s.2<w.2*s.2*(2*(r+1))):r=sI false low aC b w s:=by
 unfold sI;refine uN (by omega) r0 r1 (fun h=>?_) (fun h=>?_)
 ·have:=h1 h;simp only [ED,Bool.false_eq_true,if_false];have e:r*(2*(w.2*s.2))=w.2*s.2*(2*r):=by grind
  omega
 ·have:=h2 h;simp only [ED,Bool.false_eq_true,if_false];have e:(r+1)*(2*(w.2*s.2))=w.2*s.2*(2*(r+1)):=by grind
  omega
def lM (aA bO aM aO t:Int):Int×Int:=
 if aM≠-1∧aM<t then ((if t-aA<bO then t-aA else 1)*(aM+aO-t),(if t-aA<bO then bO else 1)*aO) else (if t-aA<bO then t-aA else 1,if t-aA<bO then bO else 1)
def zD (s:Int×Int):Prop:=0≤s.1∧s.1≤s.2∧1≤s.2∧s.2≤10000000000000000
def zq (x:Run) (t:Int):Bool:=decide (t<x.aA)||(decide (x.aM≠-1)&&decide (x.aM+x.aO≤t))
theorem Jg {aA bO aM aO t:Int} (h0:aA≤t) (hi:0≤bO∧bO≤36000000) (ho:0≤aO∧aO≤36000000) (hg:aM=-1∨t<aM+aO):zD (lM aA bO aM aO t):=by
 unfold lM zD
 have a:∀n d:Int,0≤n→n≤d→1≤d→d≤36000000→aM≠-1∧aM<t→0≤n*(aM+aO-t)∧n*(aM+aO-t)≤d*aO∧1≤d*aO∧d*aO≤10000000000000000:=by
  intro n d n0 n1 d0 d1 hc;have h1:0<aM+aO-t:=by rcases hg with h | h<;>omega
  have k1:n*(aM+aO-t)≤d*(aM+aO-t):=Int.mul_le_mul_of_nonneg_right n1 (by omega);have k2:d*(aM+aO-t)≤d*aO:=Int.mul_le_mul_of_nonneg_left (by omega) (by omega);have k3:d*aO≤36000000*36000000:=dA (by omega) (by omega) d1 ho.2 |>.2
  have k4:1*1≤d*aO:=Int.mul_le_mul d0 (by omega) (by omega) (by omega);exact ⟨Int.mul_nonneg n0 (by omega),by omega,by omega,by omega⟩
 by_cases c:aM≠-1∧aM<t
 ·rw [if_pos c];by_cases d:t-aA<bO
  ·simp only [if_pos d];exact a _ _ (by omega) (by omega) (by omega) hi.2 c
  ·simp only [if_neg d];exact a 1 1 (by omega) (by omega) (by omega) (by omega) c
 ·rw [if_neg c];by_cases d:t-aA<bO
  ·simp only [if_pos d];omega
  ·simp only [if_neg d];omega
def oz (e:Eff):Int:=e.ay+cK e.jP
def Gg (e:Eff) (i count clock:Int):Int×Int:=nS e.aJ e.av e.jP (oz e) (zI e.aH (lV (oz e) e.ak i count clock) (jU (oz e) count)) (jU (oz e) count) (lV (oz e) e.ak i count clock / jU (oz e) count) i
def yh (x:Run) (t:Int) (qB:Int×ByteArray→Int) (i:Nat) (k:Int×ByteArray):jg:=
 ⟨k.1,k.2,sI x.ef.rel x.ef.low x.ef.aC (qB k) (Gg x.ef i x.aN.length (lS x.aA x.aI t)) (lM x.aA x.bO x.aM x.aO t)⟩
def og (x:Run) (t:Int) (qB:Int×ByteArray→Int):List jg:=x.aN.mapIdx (yh x t qB)
def fV (x:Run) (t:Int) (qB:Int×ByteArray→Int):List jg:=if zq x t then [] else og x t qB
theorem yw (x:Run) (t:Int) (qB:Int×ByteArray→Int) (k:Nat) (h:k<x.aN.length):(og x t qB).take (k+1)=(og x t qB).take k++[yh x t qB k x.aN[k]]:=by
 have h1:k<(og x t qB).length:=by simpa [og] using h
 rw [List.take_succ_eq_append_getElem h1];simp [og]
theorem AB (x:Run) (t:Int) (qB:Int×ByteArray→Int):(og x t qB).length=x.aN.length:=by simp [og]
def nT (r:jw) (k:Int×ByteArray):Option Int:=(gu r k.1 k.2.data.toList).map ji.dflt
def yV (r:jw) (l:List jg) (k:Int×ByteArray):Option Int:=match l.reverse.find? (isK k) with
 | some s=>some s.lv
 | none=>nT r k
def xD (r:jw) (l:List jg) (k:Int×ByteArray):Int:=(yV r l k).getD 0
def iB (r:jw) (pre:List (Int×ByteArray)) (k:Int×ByteArray):Int:=if (nT r k).isNone then 8 else if pre.any (fun y=>decide (y=k)) then 6 else 0
def dS (r:jw) (x:Run):Int:=
 if qW (oD x.ef) x.aN≠0 then qW (oD x.ef) x.aN else if bP (iB r) x.aN 0≠0 then bP (iB r) x.aN 0 else pU x.aA x.bO x.aM x.aO x.aI
theorem Py (r:jw) (k:Int×ByteArray):(nT r k).isNone=(gu r k.1 k.2.data.toList).isNone:=by unfold nT;cases gu r k.1 k.2.data.toList<;>rfl
theorem uO {r:jw} {x:Run} (h:dS r x=0):oD x.ef=0∧(0<x.aN.length∧x.aN.length≤400)∧(∀k∈x.aN,(nT r k).isSome)∧x.aN.Nodup∧(0≤x.aA∧x.aA≤36000000)∧(0≤x.bO∧x.bO≤36000000)∧(0≤x.aO∧x.aO≤36000000)∧(x.aM=-1∨x.aA≤x.aM∧x.aM≤36000000)∧x.aI.length≤50∧jF x.aA x.aI:=by
 unfold dS at h;by_cases c:qW (oD x.ef) x.aN=0
 ·rw [if_neg (by simpa using c)] at h;by_cases d:bP (iB r) x.aN 0=0
  ·rw [if_neg (by simpa using d)] at h
   have h1:oD x.ef=0∧0<x.aN.length∧x.aN.length≤400:=by
    unfold qW LG fi2 jN at c;by_cases e:oD x.ef=0
    ·rw [if_pos e] at c;by_cases f:x.aN.length=0
     ·simp [f] at c
     ·by_cases g:400<x.aN.length
      ·simp [f,g] at c
      ·exact ⟨e,by omega,by omega⟩
    ·rw [if_neg e] at c;exact absurd c e
   have h2:∀k (hk:k<x.aN.length),(nT r x.aN[k]).isSome∧x.aN[k]∉x.aN.take k:=by
    intro k hk;have:=fG _ _ d k hk;unfold iB at this;by_cases e:(nT r x.aN[k]).isNone
    ·rw [if_pos e] at this;cases this
    ·rw [if_neg e] at this;by_cases f:(x.aN.take k).any (fun y=>decide (y=x.aN[k]))=true
     ·rw [if_pos f] at this;cases this
     ·refine ⟨by simpa [Option.isSome_iff_ne_none] using e,fun hin=>f ?_⟩;rw [List.any_eq_true];exact ⟨_,hin,by simp⟩
   have h3:∀n,n≤x.aN.length→(x.aN.take n).Nodup:=by
    intro n
    induction n with
    | zero=>intro _;simp
    | succ n ih=>intro hn;exact (xC _ n (by omega)).2 ⟨ih (by omega),(h2 n (by omega)).2⟩
   have h4:=h3 _ (Nat.le_refl _);rw [List.take_length] at h4;unfold pU at h;cases e:mX x.aA x.bO x.aM x.aO
   ·rw [e] at h;by_cases f:(decide (x.aM=-1)&&decide (x.aO≠0))=true
    ·rw [f] at h;simp at h
    ·have f':(decide (x.aM=-1)&&decide (x.aO≠0))=false:=by simpa using f
     rw [f'] at h;by_cases g:50<x.aI.length
     ·rw [if_pos g] at h;simp at h
     ·rw [if_neg g] at h;simp at h;unfold mX at e;simp only [Bool.or_eq_false_iff,Bool.not_eq_false',Bool.and_eq_false_iff,decide_eq_false_iff_not,Decidable.not_not,nG] at e;obtain ⟨⟨⟨e1,e2⟩,e3⟩,e4⟩:=e;refine ⟨h1.1,h1.2,fun k hk=>?_,h4,e1,e2,e3,?_,by omega,(El _ _).1 h⟩
      ·obtain ⟨j,hj,rfl⟩:=List.getElem_of_mem hk;exact (h2 j hj).1
      ·rcases e4 with e4 | e4
       ·exact .inl e4
       ·exact .inr e4
   ·rw [e] at h;simp at h
  ·rw [if_pos d] at h;exact absurd h d
 ·rw [if_pos c] at h;exact absurd h c
def tu (r:jw) (x:Run) (base:List jg) (t:Int):Int:=if bW r≠0 then bW r else LG (dS r x) (eX r base) (jN (!bU t 0 36000000) 1)
theorem JQ {r:jw} {x:Run} {base:List jg} {t:Int} (h:tu r x base t=0):bW r=0∧dS r x=0∧eX r base=0∧0≤t∧t≤36000000:=by
 unfold tu at h;by_cases c:bW r=0
 ·rw [if_neg (by simpa using c)] at h;unfold LG at h;by_cases d:dS r x=0
  ·rw [if_pos d] at h;unfold fi2 at h;by_cases e:eX r base=0
   ·rw [if_pos e] at h;unfold jN at h;cases f:bU t 0 36000000
    ·simp [f] at h
    ·exact ⟨c,d,e,(nG _ _ _).1 f⟩
   ·rw [if_neg e] at h;exact absurd h e
  ·rw [if_neg d] at h;exact absurd h d
 ·rw [if_pos c] at h;exact absurd h c
def vk (r:jw) (x:Run) (base:List jg) (t:Int):List jg:=if tu r x base t=0 then fV x t (xD r base) else []
theorem rW {k:Int×ByteArray} {s:jg}:isK k s=true↔s.k=k:=by simp [isK]
def rD (l:List jg):Prop:=(l.map jg.k).Nodup
theorem xk {r:jw} {l:List jg} (h:eX r l=0):rD l:=by
 unfold rD;rw [List.Nodup,List.pairwise_map,List.pairwise_iff_getElem];intro i j hi hj hij e;have h1:=fG _ _ h j hj;unfold pV at h1;split at h1
 ·cases h1
 ·split at h1
  ·cases h1
  ·split at h1
   ·cases h1
   ·rename_i c
    apply c;rw [List.any_eq_true];refine ⟨l[i],?_,rW.2 e⟩;rw [List.mem_take_iff_getElem];exact ⟨i,by omega,rfl⟩
theorem vw {r:jw} {l:List jg} (h:eX r l=0) {s:jg} (hs:s∈l):(nT r s.k).isSome∧0≤s.lv∧s.lv≤65535:=by
 obtain ⟨j,hj,rfl⟩:=List.getElem_of_mem hs;have h1:=fG _ _ h j hj;unfold pV at h1;split at h1
 ·cases h1
 ·rename_i c
  split at h1
  ·cases h1
  ·rename_i d
   refine ⟨?_,?_⟩
   ·unfold nT;have:l[j].k=(l[j].unit,l[j].par):=rfl;rw [this]
    cases f:gu r l[j].unit l[j].par.data.toList with
    | none=>simp [f] at c
    | some p=>rfl
   ·have:bU l[j].lv 0 65535=true:=by simpa using d
    exact (nG _ _ _).1 this
theorem LQ {r:jw} (h:bW r=0) {k:Int×ByteArray} {d:Int} (hd:nT r k=some d):0≤d∧d≤65535:=by
 unfold nT gu at hd
 cases hu:r.aD.find? (kC k.1) with
 | none=>rw [hu] at hd;cases hd
 | some u=>
  rw [hu] at hd;simp only at hd;have hm:=List.mem_of_find?_eq_some hu;obtain ⟨h1,h2,h3⟩:=iV h;obtain ⟨j,hj,rfl⟩:=List.getElem_of_mem hm;obtain ⟨_,_,⟨p,h4,h5⟩,_⟩:=mq (fG _ _ h3 j hj);have h6:=nI (pq h1 (lC h4).1);unfold qJ at hd;rw [h4] at hd;simp only [Option.map_some,Option.getD_some] at hd
  cases hp:kL p.iL k.2.data.toList with
  | none=>rw [hp] at hd;cases hd
  | some q=>
   rw [hp] at hd;simp at hd;subst hd;have hq:q∈p.iL:=by unfold kL at hp;exact List.mem_of_find?_eq_some hp
   obtain ⟨i,hi,rfl⟩:=List.getElem_of_mem hq;exact (lZ (rU (fG _ _ h6.2.2.2.2 i hi)).2.2.2.1).2.2
def PX (r:jw) (l:List jg):Prop:=∀s∈l,0≤s.lv∧s.lv≤65535
theorem G9 {r:jw} (h:bW r=0) {l:List jg} (hl:PX r l) {k:Int×ByteArray} {v:Int} (hv:yV r l k=some v):0≤v∧v≤65535:=by
 unfold yV at hv
 cases hf:l.reverse.find? (isK k) with
 | some s=>
  rw [hf] at hv;simp at hv;subst hv;exact hl s (List.mem_reverse.1 (List.mem_of_find?_eq_some hf))
 | none=>
  rw [hf] at hv;exact LQ h hv
theorem yU {r:jw} (h:bW r=0) {l:List jg} (hl:PX r l) (k:Int×ByteArray):0≤xD r l k∧xD r l k≤65535:=by
 unfold xD
 cases hv:yV r l k with
 | none=>simp
 | some v=>exact G9 h hl hv
theorem Ew {α:Type}:∀(l m:List α),l.Nodup→(∀x∈l,x∈m)→l.length≤m.length
 | [],m,_,_=>Nat.zero_le _
 | a::l,m,h,hm=>by
  obtain ⟨s,t,rfl⟩:=List.append_of_mem (hm a (by simp));rw [List.nodup_cons] at h
  have:=Ew l (s++t) h.2 (fun x hx=>by
   have h1:=hm x (by simp [hx]);have h2:x≠a:=fun e=>h.1 (e▸hx);simp only [List.mem_append,List.mem_cons] at h1 ⊢;rcases h1 with h1 | h1 | h1
   ·exact .inl h1
   ·exact absurd h1 h2
   ·exact .inr h1)
  simp only [List.length_append,List.length_cons] at this ⊢;omega
def uQ (r:jw):List (Int×ByteArray):=r.aD.flatMap fun u=>(qJ r.lib u).map fun p=>(u.num,p.name)
theorem Fp {r:jw} {k:Int×ByteArray} (h:(nT r k).isSome):k∈uQ r:=by
 unfold nT gu at h
 cases hu:r.aD.find? (kC k.1) with
 | none=>rw [hu] at h;cases h
 | some u=>
  rw [hu] at h;simp only at h
  cases hp:kL (qJ r.lib u) k.2.data.toList with
  | none=>rw [hp] at h;cases h
  | some p=>
   unfold uQ;rw [List.mem_flatMap];refine ⟨u,List.mem_of_find?_eq_some hu,List.mem_map.2 ⟨p,by unfold kL at hp;exact List.mem_of_find?_eq_some hp,?_⟩⟩;have h1:u.num=k.1:=by simpa [kC] using List.find?_some hu
   have h2:p.nm=k.2.data.toList:=by unfold kL at hp;simpa [jT] using List.find?_some hp
   have h3:p.name=k.2:=ByteArray.ext (Array.ext' h2);rw [h1,h3]
theorem Fq {r:jw} (h:bW r=0):(uQ r).length≤16000:=by
 have h1:=flat_le (fun u=>(qJ r.lib u).map fun p=>(u.num,p.name)) 40 r.aD (fun u hu=>by
  obtain ⟨p,hp,hl,_⟩:=vG h hu;simp [qJ,hp];exact hl)
 have h2:=(iV h).2.1;unfold uQ;omega
theorem Pn {r:jw} (h:bW r=0) {l:List jg} (hk:rD l) (hd:∀s∈l,(nT r s.k).isSome):l.length≤16000:=by
 have h1:=Ew (l.map jg.k) (uQ r) hk (fun x hx=>by
  obtain ⟨s,hs,rfl⟩:=List.mem_map.1 hx;exact Fp (hd s hs))
 have:=Fq h;rw [List.length_map] at h1;omega
theorem Au (w:World):(zeroValue 3).run Tryz.prog w=.ok (.int .i64 0) w:=by kernel_rfl
def lvI (v:Int):Value:=.int .i64 v
def fq (w:World) (mb m:Nat) (g:Int×ByteArray→Option Int):Prop:=
 ∃n f,n≤m∧jA w Tryz.prog 40 mb n f∧∀k,iX k→f (lQ k)=(g k).map lvI
theorem fq.below {w w':World} {mb m:Nat} {g:Int×ByteArray→Option Int} (h:fq w mb m g) (hb:Below w.heap.size w w'):fq w' mb m g:=by
 obtain ⟨n,f,h1,h2,h3⟩:=h;exact ⟨n,f,h1,h2.same (hb.block _ h2.lt),h3⟩
theorem fq.same {w w':World} {mb m:Nat} {g:Int×ByteArray→Option Int} (h:fq w mb m g) (hb:w'.heap[mb]?=w.heap[mb]?):fq w' mb m g:=by
 obtain ⟨n,f,h1,h2,h3⟩:=h;exact ⟨n,f,h1,h2.same hb,h3⟩
theorem fq.fK {w w':World} {mb m b:Nat} {g:Int×ByteArray→Option Int} (h:fq w mb m g) (hb:w.grownBy w' (some b)) (hne:mb≠b):fq w' mb m g:=by
 obtain ⟨n,f,h1,h2,h3⟩:=h;exact ⟨n,f,h1,h2.kept hb (by intro e;injection e with e;exact hne e),h3⟩
theorem fq.alloc {w:World} {mb m:Nat} {g:Int×ByteArray→Option Int} (h:fq w mb m g) (o:Obj):fq (w.alloc o) mb m g:=h.below ((Below.refl _ _).alloc (Nat.le_refl _) o)
theorem fq.more {w:World} {mb m m':Nat} {g:Int×ByteArray→Option Int} (h:fq w mb m g) (hm:m≤m'):fq w mb m' g:=by
 obtain ⟨n,f,h1,h⟩:=h;exact ⟨n,f,Nat.le_trans h1 hm,h⟩
theorem fq.lt {w:World} {mb m:Nat} {g:Int×ByteArray→Option Int} (h:fq w mb m g):mb<w.heap.size:=by
 obtain ⟨n,f,h1,h2,_⟩:=h;exact h2.lt
theorem fq.cast {w:World} {mb m:Nat} {g g':Int×ByteArray→Option Int} (h:fq w mb m g) (hg:∀k,iX k→g' k=g k):fq w mb m g':=by
 obtain ⟨n,f,h1,h2,h3⟩:=h;exact ⟨n,f,h1,h2,fun k hk=>by rw [h3 k hk,hg k hk]⟩
theorem Lh (w:World):fq (w.alloc (.map #[] 0)) w.heap.size 0 (fun _=>none):=⟨0,_,Nat.le_refl _,Bc w _ _,fun k _=>rfl⟩
theorem fq.look2 {w:World} {mb m:Nat} {g:Int×ByteArray→Option Int} (h:fq w mb m g) {u:Int} {s:ByteArray} (hk:iX (u,s)) {o:Option Int} (ho:g (u,s)=o) :
  (Instr.lookup 48 (.map (some mb)) (.agg #[.int .i64 u,.string s]) true).run Tryz.prog w=.ok (.tuple #[.int .i64 (o.getD 0),.bool o.isSome]) w:=by
 obtain ⟨n,f,h1,h2,h3⟩:=h;have:=h2.look true mQ (t:=48) Tryz.underlying48 (Au _) (jR hk);rw [h3 _ hk,ho] at this
 cases o with
 | none=>exact this
 | some v=>exact this
theorem fq.look1 {w:World} {mb m:Nat} {g:Int×ByteArray→Option Int} (h:fq w mb m g) {u:Int} {s:ByteArray} (hk:iX (u,s)) :
  (Instr.lookup 48 (.map (some mb)) (.agg #[.int .i64 u,.string s]) false).run Tryz.prog w=.ok (.int .i64 ((g (u,s)).getD 0)) w:=by
 obtain ⟨n,f,h1,h2,h3⟩:=h;have:=h2.look false mQ (t:=48) Tryz.underlying48 (Au _) (jR hk);rw [h3 _ hk] at this
 cases hg:g (u,s) with
 | none=>rw [hg] at this;exact this
 | some v=>rw [hg] at this;exact this
def Km (g:Int×ByteArray→Option Int) (k:Int×ByteArray) (v:Int):Int×ByteArray→Option Int:=fun x=>if k=x then some v else g x
theorem fq.put {w:World} {mb m:Nat} {g:Int×ByteArray→Option Int} (h:fq w mb m g) {u:Int} {s:ByteArray} (hk:iX (u,s)) (v:Int) (hm:m<maxLen) :
  ∃w',(Instr.mapUpdate 48 (.map (some mb)) (.agg #[.int .i64 u,.string s]) (.int .i64 v)).run Tryz.prog w=.ok () w'∧fq w' mb (m+1) (Km g (u,s) v)∧w.grownBy w' (some mb):=by
 obtain ⟨n,f,h1,h2,h3⟩:=h;obtain ⟨w',hr,hM,hg⟩:=h2.update mQ (t:=48) Tryz.underlying48 (by omega) (jR hk) (val:=.int .i64 v);refine ⟨w',hr,⟨n+1,_,by omega,hM,fun k hk'=>?_⟩,hg⟩;unfold Km;by_cases c:(u,s)=k
 ·subst c;rw [mE (mQ.key (jR hk)),if_pos rfl];rfl
 ·rw [jI (fun e=>c (ze hk' hk e).symm),if_neg c,h3 k hk']
def MO (r:jw) (k:Nat) (key:Int×ByteArray):Option Int:=nT ⟨r.lib,r.aD.take k⟩ key
theorem dfU_all (r:jw):MO r r.aD.length=nT r:=by
 funext key
 unfold MO;rw [List.take_length]
theorem Pw (r:jw) (key:Int×ByteArray):MO r 0 key=none:=by unfold MO nT gu;simp
def dfP (r:jw) (k:Nat) (u:gM) (ps:List ji) (j:Nat) (key:Int×ByteArray):Option Int:=if key.1=u.num then (kL (ps.take j) key.2.data.toList).map ji.dflt else MO r k key
theorem LP {r:jw} (ha:MG r.aD) {k:Nat} (hk:k<r.aD.length) (ps:List ji) (key:Int×ByteArray):dfP r k r.aD[k] ps 0 key=MO r k key:=by
 unfold dfP;by_cases c:key.1=r.aD[k].num
 ·rw [if_pos c]
  have:(r.aD.take k).find? (kC key.1)=none:=by
   rw [List.find?_eq_none];intro u hu hn;obtain ⟨j,hj,rfl⟩:=List.mem_take_iff_getElem.1 hu;have h1:=ha j k (by omega) hk (by omega);have h2:r.aD[j].num=key.1:=by simpa [kC] using hn
   omega
  unfold MO nT gu;simp only [this];rfl
 ·rw [if_neg c]
theorem dfP_end {r:jw} (ha:MG r.aD) {k:Nat} (hk:k<r.aD.length) {p:Prf} (hp:cB r.lib r.aD[k].nm=some p) (key:Int×ByteArray):dfP r k r.aD[k] p.iL p.iL.length key=MO r (k+1) key:=by
 have hx:(r.aD.take (k+1)).find? (kC key.1)=((r.aD.take k).find? (kC key.1)).or (if kC key.1 r.aD[k] then some r.aD[k] else none):=by
  rw [List.take_succ_eq_append_getElem hk,List.find?_append];congr 1
  cases h:kC key.1 r.aD[k]<;>simp [h]
 unfold dfP;by_cases c:key.1=r.aD[k].num
 ·rw [if_pos c,List.take_length]
  have h1:(r.aD.take k).find? (kC key.1)=none:=by
   rw [List.find?_eq_none];intro u hu hn;obtain ⟨j,hj,rfl⟩:=List.mem_take_iff_getElem.1 hu;have h1:=ha j k (by omega) hk (by omega);have h2:r.aD[j].num=key.1:=by simpa [kC] using hn
   omega
  have h2:kC key.1 r.aD[k]=true:=by simp [kC,c]
  unfold MO nT gu;simp only [hx,h1,h2,if_true,Option.none_or];unfold qJ;rw [hp];rfl
 ·rw [if_neg c];have h2:kC key.1 r.aD[k]=false:=by simp only [kC,decide_eq_false_iff_not];exact fun e=>c e.symm
  unfold MO nT gu;simp only [hx,h2,Bool.false_eq_true,if_false,Option.or_none]
theorem Px {r:jw} {k:Nat} {u:gM} {ps:List ji} {j:Nat} (hj:j<ps.length) (hn:ps[j].nm∉(ps.take j).map ji.nm) (key:Int×ByteArray) :
  dfP r k u ps (j+1) key=Km (dfP r k u ps j) (u.num,ps[j].name) ps[j].dflt key:=by
 have hx:kL (ps.take (j+1)) key.2.data.toList=(kL (ps.take j) key.2.data.toList).or (if jT key.2.data.toList ps[j] then some ps[j] else none):=by
  unfold kL;rw [List.take_succ_eq_append_getElem hj,List.find?_append];congr 1
  cases h:jT key.2.data.toList ps[j]<;>simp [h]
 unfold Km dfP;by_cases c:(u.num,ps[j].name)=key
 ·subst c;simp only [if_true]
  have h1:kL (ps.take j) ps[j].name.data.toList=none:=by
   unfold kL;rw [List.find?_eq_none];intro q hq he;apply hn;rw [List.mem_map];exact ⟨q,hq,by simpa [jT,ji.nm] using he⟩
  have h2:jT ps[j].name.data.toList ps[j]=true:=by simp [jT,ji.nm]
  simp only [hx,h1,h2,if_true,Option.none_or,Option.map_some]
 ·rw [if_neg c];by_cases d:key.1=u.num
  ·rw [if_pos d,if_pos d]
   have h2:jT key.2.data.toList ps[j]=false:=by
    simp only [jT,decide_eq_false_iff_not];intro e;apply c;have e2:ps[j].name=key.2:=ByteArray.ext (Array.ext' e);rw [←d,e2]
   rw [hx,h2];simp
  ·rw [if_neg d,if_neg d]
end Go.Proofs.YtopmdeefcjdadaaGreat
