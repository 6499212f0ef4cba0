import Derived.Test.YtopmdeefcjdadaaGreatT42M00
import Derived.Test.YtopmdeefcjdadaaGreatT42M21
set_option linter.unusedVariables false
set_option linter.unusedSimpArgs false
set_option maxRecDepth 100000
set_option maxHeartbeats 32000000
namespace Go.Proofs.YtopmdeefcjdadaaGreat
open Go.RowKit
theorem top_two {y M:Nat} (h:y<BB ^ (M+2)):y / BB ^ M=dg y (M+1)*BB+dg y M:=by
 have h1:=kF y M;have h2:=kF y (M+1);have h3:qN y (M+1+1)=0:=wR h;rw [h3,Nat.mul_zero,Nat.zero_add] at h2;have:y / BB ^ M=qN y M:=rfl;rw [this,h1,h2,Nat.mul_comm]
theorem Ll {W M:Nat} (h:W<BB ^ (M+3)):W / BB ^ M=(dg W (M+2)*BB+dg W (M+1))*BB+dg W M:=by
 have h1:=kF W M;have h2:=kF W (M+1);have h3:=kF W (M+2);have h4:qN W (M+2+1)=0:=wR h;rw [h4,Nat.mul_zero,Nat.zero_add] at h3;have:W / BB ^ M=qN W M:=rfl;have e:qN W (M+1+1)=qN W (M+2):=rfl;rw [this,h1,h2,e,h3,Nat.mul_comm BB (BB*_+_),Nat.mul_comm BB (dg W (M+2))]
theorem Na {W y P v1 v2 top x3:Nat} (hP:0<P) (hv:y / P=v1*BB+v2) (hv2:v2<BB) (hw:W / P=top*BB+x3) (hx:x3<BB) (hW:W<y*BB):top<v1*BB+BB:=by
 have a1:=Nat.div_add_mod y P;have a3:=Nat.mod_lt y hP
 have c1:y<(v1*BB+v2+1)*P:=by
  rw [Nat.add_mul (v1*BB+v2) 1,Nat.one_mul,←hv,Nat.mul_comm (y / P) P];omega
 have c2:y*BB<(v1*BB+v2+1)*BB*P:=by
  rw [Nat.mul_right_comm];exact Nat.mul_lt_mul_of_pos_right c1 nN
 have c3:W / P<(v1*BB+v2+1)*BB:=(Nat.div_lt_iff_lt_mul hP).2 (by omega);rw [hw] at c3
 have c4:top*BB<(v1*BB+BB)*BB:=by
  have:(v1*BB+v2+1)*BB≤(v1*BB+BB)*BB:=Nat.mul_le_mul_right _ (by omega);omega
 exact Nat.lt_of_mul_lt_mul_right c4
structure GS (W y v1 v2 top x3 q r:Nat):Prop where
 eq:top=q*v1+r
 low:W / y≤q
 aD:q≤2000000000
 rest:r<1000000000
structure GK (W y P v1 v2 top x3:Nat):Prop where
 hP:0<P
 hv:y / P=v1*BB+v2
 hw:W / P=top*BB+x3
 hy:0<y
 hW:W<y*BB
 hv1:0<v1
 hv1b:v1<BB
 hv2:v2<BB
 hx:x3<BB
theorem GK.aB {W y P v1 v2 top x3:Nat} (k:GK W y P v1 v2 top x3):GS W y v1 v2 top x3 (top / v1) (top % v1):=by
 obtain ⟨h1,h2⟩:=Gg W y P v1 v2 top x3 (W / y) k.hP k.hv k.hv2 k.hw k.hx k.hv1 rfl k.hW;have h3:=Nat.mod_lt top k.hv1;have h4:=k.hv1b;unfold BB at h2 h4;exact ⟨by rw [Nat.mul_comm];exact (Nat.div_add_mod top v1).symm,h1,by omega,by omega⟩
theorem GK.down {W y P v1 v2 top x3 q r:Nat} (k:GK W y P v1 v2 top x3) (s:GS W y v1 v2 top x3 q r) (h:1000000000≤q∨r*1000000000+x3<q*v2) :
  1≤q∧(r+v1<1000000000→GS W y v1 v2 top x3 (q-1) (r+v1))∧(1000000000≤r+v1→W / y≤q-1∧q-1≤W / y+1):=by
 have hd:=Jp W y P v1 v2 top x3 (W / y) q r k.hP k.hv k.hw k.hy rfl k.hW s.eq h
 have e:top=(q-1)*v1+(r+v1):=by
  obtain ⟨p,rfl⟩:∃p,q=p+1:=⟨q-1,(Nat.sub_add_cancel (Nat.le_trans (Nat.le_add_left 1 _) hd)).symm⟩;have:=s.eq;rw [Nat.add_mul,Nat.one_mul] at this;rw [Nat.add_sub_cancel];omega
 refine ⟨Nat.le_trans (Nat.le_add_left 1 _) hd,fun hr=>⟨e,Nat.le_sub_one_of_lt hd,by have:=s.aD;omega,hr⟩,fun hr=>⟨Nat.le_sub_one_of_lt hd,?_⟩⟩;refine Gh W y P v1 v2 top x3 (W / y) (q-1) (r+v1) k.hP k.hv k.hw k.hy rfl k.hv1 k.hv2 e ?_ hr;have ht:=Na k.hP k.hv k.hv2 k.hw k.hx k.hW;rw [e] at ht
 have:(q-1)*v1<BB*v1:=by
  have hr':BB≤r+v1:=hr;rw [Nat.mul_comm BB];omega
 exact Nat.le_of_lt (Nat.lt_of_mul_lt_mul_right this)
theorem GK.stop {W y P v1 v2 top x3 q r:Nat} (k:GK W y P v1 v2 top x3) (s:GS W y v1 v2 top x3 q r) (h1:q<1000000000) (h2:q*v2≤r*1000000000+x3):W / y≤q∧q≤W / y+1:=
 ⟨s.low,Jo W y P v1 v2 top x3 (W / y) q r k.hP k.hv k.hw k.hy rfl k.hv1 s.eq h1 h2⟩
theorem GK.mk' {X y j M:Nat} (hy:fT y (M+2)) (hX:X / BB ^ j<y*BB):GK (X / BB ^ j) y (BB ^ M) (dg y (M+1)) (dg y M) (dg X (j+(M+2))*BB+dg X (j+(M+1))) (dg X (j+M)):=by
 have h0:0<y:=Nat.lt_of_lt_of_le (pQ _) (hy.2 (by omega))
 have h1:X / BB ^ j<BB ^ (M+3):=by
  have:y*BB<BB ^ (M+2)*BB:=Nat.mul_lt_mul_of_pos_right hy.1 nN;rw [←Nat.pow_succ] at this;exact Nat.lt_trans hX this
 refine ⟨pQ M,top_two hy.1,?_,h0,hX,?_,nH _ _,nH _ _,nH _ _⟩
 ·rw [Ll h1];simp only [oH]
 ·exact Rk hy (by omega)
theorem GS.prod {W y v1 v2 top x3 q r:Nat} (s:GS W y v1 v2 top x3 q r) (hv2:(v2:Int)≤999999999):∃p:Nat,q*v2=p∧(q:Int)*(v2:Int)=(p:Int)∧(p:Int)≤1999999998000000000:=by
 refine ⟨q*v2,rfl,(Int.natCast_mul q v2).symm,?_⟩;have h1:=s.aD;have h2:v2≤999999999:=by omega
 have:=Nat.mul_le_mul h1 h2;omega
def J5 (qt:Nat) (w:World) (e:Ending) (w':World):Prop:=(∃q:Nat,e=.returned (.int .i64 q)∧qt≤q∧q≤qt+1)∧∃n,w'=w.drewN n
theorem Jq (W y P x0 x1 x2 v1 v2 top j T g h cx cy N N1 M J0 J1 J2:Nat) (w:World) (hk:GK W y P v1 v2 top x2) (hT:T≤100) (hN:N≤100)
  (k0:w.cell? ⟨g,J0,none⟩=some (.int .i64 (x0:Nat))) (k1:w.cell? ⟨g,J1,none⟩=some (.int .i64 (x1:Nat))) (k2:w.cell? ⟨g,J2,none⟩=some (.int .i64 (x2:Nat)))
  (l1:w.cell? ⟨h,N1,none⟩=some (.int .i64 (v1:Nat))) (l2:w.cell? ⟨h,M,none⟩=some (.int .i64 (v2:Nat)))
  (b0:(x0:Int)≤999999999) (b1:(x1:Int)≤999999999) (b2:(x2:Int)≤999999999) (b3:(v1:Int)≤999999999) (b4:(v2:Int)≤999999999)
  (ht2:(x0:Int)*1000000000+(x1:Int)=(top:Int))
  (i0:(j:Int)+(N:Int)=(J0:Int)) (i1:(J0:Int)-1=(J1:Int)) (i2:(J0:Int)-2=(J2:Int)) (n1:(N:Int)-1=(N1:Int)) (n2:(N:Int)-2=(M:Int))
  (s0:J0<T) (s1:J1<T) (s2:J2<T) (m1:N1<N) (m2:M<N) :
  Calls Tryz.prog 110 #[.slice (some ⟨g,0,none⟩) T cx,.slice (some ⟨h,0,none⟩) N cy,.int .i64 j] w (J5 (W / y) w):=by
 have HS:=ah hk.aB;have HK:=ah hk;clear hk;have hv1:(0:Int)<(v1:Int):=by have:=HK.out.hv1;omega
 obtain ⟨q0,hq0⟩:∃q:Nat,top / v1=q:=⟨_,rfl⟩;obtain ⟨r0,hr0⟩:∃q:Nat,top % v1=q:=⟨_,rfl⟩;rw [hq0,hr0] at HS;obtain ⟨dq1,dq2⟩:=wQ hq0;obtain ⟨dr1,dr2⟩:=BN hr0;have htop:(top:Int)≤999999999999999999:=by omega
 have hq9:(q0:Int)≤2000000000:=by have:=HS.out.aD;omega
 have hr9:(r0:Int)≤999999999:=by have:=HS.out.rest;omega
 clear hq0 hr0;go_enter Tryz.func110,Tryz.ntmps110;go_wp2
 go_quiet (fail)
 go_wp2
 go_loopw [9,10] (fun qq rr wr=>∃q r:Nat,qq=.int .i64 q∧rr=.int .i64 r∧GS W y v1 v2 top x2 q r∧∃n,wr=w.drewN n) (fun qq _ _=>(intOf qq).toNat)
 case atStart=>exact ⟨q0,r0,rfl,rfl,HS.out,_,rfl⟩
 case round=>
  obtain ⟨q,r,rfl,rfl,hs,nn,rfl⟩:=hrel;have HS2:=ah hs;have hq9':(q:Int)≤2000000000:=by have:=hs.aD;omega
  have hr9':(r:Int)≤999999999:=by have:=hs.rest;omega
  clear hs HS hq9 hr9 dq1 dq2 dr1 dr2;by_cases hA:(1000000000:Int)≤(q:Int)
  ·obtain ⟨d1,d2,d3⟩:=HK.out.down HS2.out (.inl (by omega));have D2:=ah d2;have D3:=ah d3;clear d2 d3;have hA2:decide ((1000000000:Int)≤(q:Int))=true:=by simp;omega
   go_wp2
   go_quiet (fail)
   by_cases hB:(1000000000:Int)≤(r:Int)+(v1:Int)
   ·have HB3:=ah (D3.out (by omega));have HQ:=ah (show Ending.returned (.int .i64 ((q:Int)-1))=.returned (.int .i64 ((q-1:Nat):Int)) by congr 2;omega);clear D2 D3;go_wp2
    go_ret;exact ⟨⟨q-1,HQ.out,HB3.out⟩,_,rfl⟩
   ·have HD2:=ah (D2.out (by omega));have HQ:=ah (show Value.int .i64 ((q:Int)-1)=.int .i64 ((q-1:Nat):Int) by congr 1;omega);clear D2 D3;go_wp2
    go_roundw
    case rel=>exact ⟨q-1,r+v1,HQ.out,by go_num,HD2.out,_,rfl⟩
    case measure=>simp [intOf];omega
  ·have hA2:decide ((1000000000:Int)≤(q:Int))=false:=by simp;omega
   have hA3:(q:Int)≤999999999:=by omega
   obtain ⟨p,hp0,hp,hp9⟩:=HS2.out.prod b4;have HP:=ah hp0;clear hp0;by_cases hT2:(r:Int)*1000000000+(x2:Int)<(p:Int)
   ·obtain ⟨d1,d2,d3⟩:=HK.out.down HS2.out (.inr (by rw [HP.out];omega));have D2:=ah d2;have D3:=ah d3;clear d2 d3;have hT3:decide ((r:Int)*1000000000+(x2:Int)<(p:Int))=true:=by simp;omega
    go_wp2
    go_quiet (fail)
    by_cases hB:(1000000000:Int)≤(r:Int)+(v1:Int)
    ·have HB3:=ah (D3.out (by omega));have HQ:=ah (show Ending.returned (.int .i64 ((q:Int)-1))=.returned (.int .i64 ((q-1:Nat):Int)) by congr 2;omega);clear D2 D3;go_wp2
     go_ret;exact ⟨⟨q-1,HQ.out,HB3.out⟩,_,rfl⟩
    ·have HD2:=ah (D2.out (by omega));have HQ:=ah (show Value.int .i64 ((q:Int)-1)=.int .i64 ((q-1:Nat):Int) by congr 1;omega);clear D2 D3;go_wp2
     go_roundw
     case rel=>exact ⟨q-1,r+v1,HQ.out,by go_num,HD2.out,_,rfl⟩
     case measure=>simp [intOf];omega
   ·have HB3:=ah (HK.out.stop HS2.out (by omega) (by rw [HP.out];omega));have hT3:decide ((r:Int)*1000000000+(x2:Int)<(p:Int))=false:=by simp;omega
    go_wp2
    go_quiet (fail)
    go_wp2
    go_ret;exact ⟨⟨q,rfl,HB3.out⟩,nn+nq,by first | rfl | simp⟩
theorem Nc (X y j M T g h cx cy:Nat) (w:World) (hy:fT y (M+2)) (hX:X / BB ^ j<y*BB) (hj:j+M+2<T) (hT:T≤100)
  (hcx:∀i,i<T→w.cell? ⟨g,i,none⟩=some (.int .i64 (dg X i:Nat))) (hcy:∀i,i<M+2→w.cell? ⟨h,i,none⟩=some (.int .i64 (dg y i:Nat))) :
  Calls Tryz.prog 110 #[.slice (some ⟨g,0,none⟩) T cx,.slice (some ⟨h,0,none⟩) (M+2:Nat) cy,.int .i64 j] w (J5 (X / BB ^ j / y) w):=
 Jq (X / BB ^ j) y (BB ^ M) (dg X (j+(M+2))) (dg X (j+(M+1))) (dg X (j+M)) (dg y (M+1)) (dg y M) (dg X (j+(M+2))*BB+dg X (j+(M+1))) j T g h cx cy (M+2) (M+1) M (j+(M+2)) (j+(M+1)) (j+M) w
  (GK.mk' hy hX) hT (by omega) (hcx _ (by omega)) (hcx _ (by omega)) (hcx _ (by omega)) (hcy _ (by omega)) (hcy _ (by omega))
  (fZ _ _) (fZ _ _) (fZ _ _) (fZ _ _) (fZ _ _) (by unfold BB;omega) (by omega) (by omega) (by omega) (by omega) (by omega) (by omega) (by omega) (by omega) (by omega) (by omega)
def sH (W y q i:Nat):Nat:=(-lV W y q i).toNat
theorem pJ (W y q i:Nat):((sH W y q i:Nat):Int)=-lV W y q i:=by
 unfold sH;have:=cryT_le W y q i;omega
theorem NH (W y q:Nat):sH W y q 0=0:=by unfold sH;rw [tH];rfl
theorem borT_le (W y q i:Nat):sH W y q i≤q:=by
 have:=cryT_ge W y q i;have:=pJ W y q i;omega
def Ko (W y q:Nat):Bool:=decide (W<q*y)
theorem Ca {W y q:Nat} (h:W<q*y):Ko W y q=true:=decide_eq_true h
theorem FI {W y q:Nat} (h:q*y≤W):Ko W y q=false:=decide_eq_false (by omega)
theorem Rv {W y q n:Nat} (hW:W<BB ^ n) (hy:y<BB ^ n) (hq:q*y≤W+y):decide (0<sH W y q n)=Ko W y q:=by
 obtain ⟨_,_,h⟩:=rG hW hy hq;have h2:=pJ W y q n;rw [h] at h2;by_cases hc:q*y≤W
 ·rw [if_pos hc] at h2;rw [FI hc,show sH W y q n=0 by omega];rfl
 ·rw [if_neg hc] at h2;rw [Ca (by omega),show sH W y q n=1 by omega];rfl
theorem OX {W y q n i:Nat} {s:Int} (hW:W<BB ^ n) (hy:y<BB ^ n) (hq:q*y≤W+y) (hi:i<n) (hs:s=(dg W i:Int)-(sH W y q i:Int)-((q*dg y i:Nat):Int)) (h0:0≤s) :
  s=(dg (qR W y q n) i:Nat)∧sH W y q (i+1)=0:=by
 obtain ⟨_,h,_⟩:=rG hW hy hq;have h1:=h i hi;unfold Gs at h1;have h2:=pJ W y q i;have h3:=pJ W y q (i+1);rw [pE] at h3;have h4:=nH W i;rw [Int.natCast_mul] at hs;have hs':(dg W i:Int)+lV W y q i-(q:Int)*(dg y i:Int)=s:=by omega
 rw [hs'] at h1 h3;have h5:(0:Int)≤(q:Int)*(dg y i:Int):=Int.mul_nonneg (by omega) (by omega);have hb:s<(BB:Int):=by omega
 rw [Int.emod_eq_of_lt h0 hb] at h1;rw [Int.ediv_eq_zero_of_lt h0 hb] at h3;exact ⟨h1,by omega⟩
theorem O0 {W y q n i s:Nat} (hW:W<BB ^ n) (hy:y<BB ^ n) (hq:q*y≤W+y) (hi:i<n) (hs:-(s:Int)=(dg W i:Int)-(sH W y q i:Int)-((q*dg y i:Nat):Int)) (h0:0<s) :
  sH W y q (i+1)=(s+999999999) / 1000000000∧-(s:Int)+(sH W y q (i+1):Int)*1000000000=(dg (qR W y q n) i:Nat):=by
 obtain ⟨_,h,_⟩:=rG hW hy hq;have h1:=h i hi;unfold Gs at h1;have h2:=pJ W y q i;have h3:=pJ W y q (i+1);rw [pE] at h3;rw [Int.natCast_mul] at hs;have hs':(dg W i:Int)+lV W y q i-(q:Int)*(dg y i:Int)=-(s:Int):=by omega
 rw [hs'] at h1 h3;have e:(BB:Int)=1000000000:=rfl;rw [e] at h1 h3;clear hs hs' h e;constructor
 ·omega
 ·omega
def mZ (X y q j n:Nat):Nat:=kJ X (qR (X / BB ^ j) y q n) j
theorem EP (X y q j n T:Nat):dw (mZ X y q j n) X j T=bI X T:=by
 refine jW fun p hp=>?_;by_cases h:p<j
 ·rw [kI h];exact rX _ _ h
 ·exact gG (by omega)
theorem Ls {X y q j n T:Nat} (hW:X / BB ^ j<BB ^ n) (hy:y<BB ^ n) (hq:q*y≤X / BB ^ j+y):dw (mZ X y q j n) X (j+n) T=bI (mZ X y q j n) T:=by
 refine jW fun p hp=>?_;by_cases h:p<j+n
 ·exact kI h
 ·rw [gG (by omega)];obtain ⟨k,rfl⟩:∃k,p=j+k:=⟨p-j,by omega⟩;unfold mZ;rw [jL,←oH,bV (iU hW (by omega)),bV (iU (rG hW hy hq).1 (by omega))]
theorem O3 (X y q j n i:Nat):dg (mZ X y q j n) (j+i)=dg (qR (X / BB ^ j) y q n) i:=jL _ _ _ _
theorem prod_q (q d:Nat) (hq:(q:Int)≤1000000000) (hd:(d:Int)≤999999999):∃p:Nat,q*d=p∧(q:Int)*(d:Int)=(p:Int)∧(p:Int)≤1000000000000000000:=by
 refine ⟨q*d,rfl,(Int.natCast_mul q d).symm,?_⟩;have h1:q≤1000000000:=by omega
 have h2:d≤999999999:=by omega
 have:=Nat.mul_le_mul h1 h2;omega
def NTakeP (base X y q j n g T cx:Nat) (w:World) (e:Ending) (w':World):Prop:=
 e=.returned (.bool (Ko (X / BB ^ j) y q))∧Row base w' g T cx (bI (mZ X y q j n) T)∧w.grownBy w' (some g)
theorem MC (base X y q j N T g h cx cy:Nat) (w:World) (hW:X / BB ^ j<BB ^ (N+1)) (hy:y<BB ^ N) (hq:q*y≤X / BB ^ j+y) (hq9:(q:Int)≤1000000000) (hj:j+N<T) (hT:T≤100) (hne:h≠g) (hh:h<w.heap.size)
  (hrow:Row base w g T cx (bI X T)) (hcy:∀i,i<N→w.cell? ⟨h,i,none⟩=some (.int .i64 (dg y i:Nat))) :
  Calls Tryz.prog 111 #[.slice (some ⟨g,0,none⟩) T cx,.slice (some ⟨h,0,none⟩) N cy,.int .i64 j,.int .i64 q] w (NTakeP base X y q j (N+1) g T cx w):=by
 have hy':y<BB ^ (N+1):=iU hy (by omega);have AL:=ah (show Row base w g T cx (dw (mZ X y q j (N+1)) X (j+0) T) by show Row _ _ _ _ _ (dw _ _ j T);rw [EP];exact hrow);have HE:=ah (Ls (T:=T) hW hy' hq);have HO:=ah (Rv hW hy' hq);have HY:=ah hcy;have HP:=ah (fun i (hi:i<N+1) s=>OX (s:=s) hW hy' hq hi);have HN:=ah (fun i (hi:i<N+1) s=>O0 (s:=s) hW hy' hq hi);have Hyz:=ah (show dg y N=0 from bV hy);have Hne:=ah hne;clear hrow hcy hW hy hy' hq hne;go_enter Tryz.func111,Tryz.ntmps111;go_wp2
 go_loopw [9,10] (fun bb ii wr=>∃i:Nat,i≤N+1∧ii=.int .i64 i∧bb=.int .i64 (sH (X / BB ^ j) y q i:Nat)∧Row base wr g T cx (dw (mZ X y q j (N+1)) X (j+i) T)∧w.grownBy wr (some g)) (fun _ ii _=>N+1-(intOf ii).toNat)
 case atStart=>exact ⟨0,by omega,rfl,by rw [NH];rfl,AL.out,World.grownBy.refl _ _⟩
 case round=>
  obtain ⟨i,hi,rfl,rfl,hrow,hg⟩:=hrel;have HR:=ah hrow;have HG:=ah hg;clear hrow hg AL;by_cases hiN:i<N+1
  ·have QJ:j+i<T:=by omega
   have hco:=HR.out.at QJ;rw [gG (Nat.le_refl _),←oH] at hco;have hfo:=HR.out.free (j+i);obtain ⟨J,hJ⟩:∃J:Nat,J=j+i:=⟨_,rfl⟩;have HJ:=ah hJ;rw [←hJ] at hco hfo QJ;have hJi:(i:Int)+(j:Int)=(J:Int):=by omega
   have HXD:=ah (O3 X y q j (N+1) i);have MX:=borT_le (X / BB ^ j) y q i;have Hl:=fZ (X / BB ^ j) i;have P:=HP.out i hiN;have HDV:=ah (fZ (qR (X / BB ^ j) y q (N+1)) i);have M:=HN.out i hiN;clear hJ HP HN;generalize hbn:sH (X / BB ^ j) y q (i+1)=bn at *;have EI:=ah hbn;generalize sH (X / BB ^ j) y q i=b at *;generalize dg (X / BB ^ j) i=x at *;generalize dg (qR (X / BB ^ j) y q (N+1)) i=d at *;clear hbn;by_cases hin:i<N
   ·have hcy:=(og (o:=i) HG.out hh (by intro e;injection e with e;exact Hne.out e)).trans (HY.out i hin);have Hg:=fZ y i;generalize dg y i=yd at *;obtain ⟨p,hp0,hp,hp9⟩:=prod_q q yd hq9 Hg;rw [hp0] at P M;obtain ⟨S,hS⟩:∃S:Int,(x:Int)-(b:Int)-(p:Int)=S:=⟨_,rfl⟩;by_cases hneg:S<0
    ·obtain ⟨s,rfl⟩:∃s:Nat,S=-(s:Int):=⟨(-S).toNat,by omega⟩;obtain ⟨e1,e2⟩:=M s hS.symm (by omega);have EC:(d:Int)≤999999999:=by have:=HDV.out;omega
     have hs9:(s:Int)≤1000000001000000000:=by omega
     obtain ⟨s2,hs12⟩:∃s2:Nat,(s:Int)+1000000000=(s2:Int):=⟨s+1000000000,by omega⟩;obtain ⟨s1,hs1⟩:∃s1:Nat,(s2:Int)-1=(s1:Int):=⟨s2-1,by omega⟩;have hs2:(s1:Int) / 1000000000=(bn:Int):=by omega
     have hs3:(s1:Int).tdiv 1000000000=(bn:Int):=by rw [Int.tdiv_eq_ediv_of_nonneg (by omega)];exact hs2
     have hbn9:(bn:Int)≤1000000002:=by omega
     have hs4:(bn:Int)*1000000000≤1000000002000000000:=by omega
     clear P M e1 hp0;go_wp2
     exact ⟨⟨i+1,by omega,by go_num,by rw [EI.out],by rw [HJ.out,←HXD.out];exact HR.out.up (by omega),jw HG.out (lD _ _ _ _)⟩,by simp [intOf]<;>omega⟩
    ·have hs_:True:=trivial;obtain ⟨s,rfl⟩:∃s:Nat,S=(s:Int):=⟨S.toNat,by omega⟩;obtain ⟨e1,e2⟩:=P s hS.symm (by omega);have e3:s=d:=by omega
     subst e3;have qW:=ah (EI.out.trans e2);have hs0:decide ((s:Int)<0)=false:=by simp
     clear P M e1 hp0 hs_;go_wp2
     exact ⟨⟨i+1,by omega,by go_num,by rw [qW.out];rfl,by rw [HJ.out,←HXD.out];exact HR.out.up (by omega),jw HG.out (lD _ _ _ _)⟩,by simp [intOf]<;>omega⟩
   ·obtain rfl:i=N:=by omega
    have hy0:=Hyz.out;rw [hy0,Nat.mul_zero] at P M;obtain ⟨S,hS⟩:∃S:Int,(x:Int)-(b:Int)=S:=⟨_,rfl⟩;by_cases hneg:S<0
    ·obtain ⟨s,rfl⟩:∃s:Nat,S=-(s:Int):=⟨(-S).toNat,by omega⟩;obtain ⟨e1,e2⟩:=M s (by omega) (by omega);have EC:(d:Int)≤999999999:=by have:=HDV.out;omega
     have hs9:(s:Int)≤1000000001000000000:=by omega
     obtain ⟨s2,hs12⟩:∃s2:Nat,(s:Int)+1000000000=(s2:Int):=⟨s+1000000000,by omega⟩;obtain ⟨s1,hs1⟩:∃s1:Nat,(s2:Int)-1=(s1:Int):=⟨s2-1,by omega⟩;have hs2:(s1:Int) / 1000000000=(bn:Int):=by omega
     have hs3:(s1:Int).tdiv 1000000000=(bn:Int):=by rw [Int.tdiv_eq_ediv_of_nonneg (by omega)];exact hs2
     have hbn9:(bn:Int)≤1000000002:=by omega
     have hs4:(bn:Int)*1000000000≤1000000002000000000:=by omega
     clear P M e1 hy0;go_wp2
     exact ⟨⟨i+1,by omega,by go_num,by rw [EI.out],by rw [HJ.out,←HXD.out];exact HR.out.up (by omega),jw HG.out (lD _ _ _ _)⟩,by simp [intOf]<;>omega⟩
    ·have hs_:True:=trivial;obtain ⟨s,rfl⟩:∃s:Nat,S=(s:Int):=⟨S.toNat,by omega⟩;obtain ⟨e1,e2⟩:=P s (by omega) (by omega);have e3:s=d:=by omega
     subst e3;have qW:=ah (EI.out.trans e2);have hs0:decide ((s:Int)<0)=false:=by simp
     clear P M e1 hy0 hs_;go_wp2
     exact ⟨⟨i+1,by omega,by go_num,by rw [qW.out];rfl,by rw [HJ.out,←HXD.out];exact HR.out.up (by omega),jw HG.out (lD _ _ _ _)⟩,by simp [intOf]<;>omega⟩
  ·obtain rfl:i=N+1:=by omega
   have Hr:=ah (show Row base _ g T cx (bI (mZ X y q j (N+1)) T) by rw [←HE.out];exact HR.out);generalize sH (X / BB ^ j) y q (N+1)=b at *;have nT:=HO;clear HO;clear HE HP HN HR;go_wp2
   go_ret;exact ⟨by rw [←nT.out];rfl,Hr.out,HG.out⟩
def qU (Z y j n:Nat):Nat:=kJ Z ((Z / BB ^ j+y) % BB ^ n) j
theorem Gi (Z y j n T:Nat):dw (qU Z y j n) Z j T=bI Z T:=by
 refine jW fun p hp=>?_;by_cases h:p<j
 ·rw [kI h];exact rX _ _ h
 ·exact gG (by omega)
theorem Nf {Z y j n T:Nat} (hW:Z / BB ^ j<BB ^ n):dw (qU Z y j n) Z (j+n) T=bI (qU Z y j n) T:=by
 refine jW fun p hp=>?_;by_cases h:p<j+n
 ·exact kI h
 ·rw [gG (by omega)];obtain ⟨k,rfl⟩:∃k,p=j+k:=⟨p-j,by omega⟩;unfold qU;rw [jL,←oH,bV (iU hW (by omega)),bV (iU (Nat.mod_lt _ (pQ n)) (by omega))]
theorem QS {Z y j n i:Nat} (hi:i<n):dg (qU Z y j n) (j+i)=dg (Z / BB ^ j+y) i:=by
 unfold qU;rw [jL,Ju hi]
def GiveP (base Z y j n g T cx:Nat) (w:World) (e:Ending) (w':World):Prop:=
 (∃v,e=.returned v)∧Row base w' g T cx (bI (qU Z y j n) T)∧w.grownBy w' (some g)
theorem QO (base Z y j N T g h cx cy:Nat) (w:World) (hW:Z / BB ^ j<BB ^ (N+1)) (hy:y<BB ^ N) (hj:j+N<T) (hT:T≤100) (hne:h≠g) (hh:h<w.heap.size)
  (hrow:Row base w g T cx (bI Z T)) (hcy:∀i,i<N→w.cell? ⟨h,i,none⟩=some (.int .i64 (dg y i:Nat))) :
  Calls Tryz.prog 112 #[.slice (some ⟨g,0,none⟩) T cx,.slice (some ⟨h,0,none⟩) N cy,.int .i64 j] w (GiveP base Z y j (N+1) g T cx w):=by
 have AL:=ah (show Row base w g T cx (dw (qU Z y j (N+1)) Z (j+0) T) by show Row _ _ _ _ _ (dw _ _ j T);rw [Gi];exact hrow);have HE:=ah (Nf (y:=y) (T:=T) hW);have HY:=ah hcy;have Hyz:=ah (show dg y N=0 from bV hy);have Hne:=ah hne;clear hrow hcy hW hy hne;go_enter Tryz.func112,Tryz.ntmps112;go_wp2
 go_loopw [6,7] (fun cc ii wr=>∃i:Nat,i≤N+1∧ii=.int .i64 i∧cc=.int .i64 (eG (Z / BB ^ j) y i:Nat)∧Row base wr g T cx (dw (qU Z y j (N+1)) Z (j+i) T)∧w.grownBy wr (some g)) (fun _ ii _=>N+1-(intOf ii).toNat)
 case atStart=>exact ⟨0,by omega,rfl,by rw [yA];rfl,AL.out,World.grownBy.refl _ _⟩
 case round=>
  obtain ⟨i,hi,rfl,rfl,hrow,hg⟩:=hrel;have HR:=ah hrow;have HG:=ah hg;clear hrow hg AL;by_cases hiN:i<N+1
  ·have QJ:j+i<T:=by omega
   have hco:=HR.out.at QJ;rw [gG (Nat.le_refl _),←oH] at hco;have hfo:=HR.out.free (j+i);obtain ⟨J,hJ⟩:∃J:Nat,J=j+i:=⟨_,rfl⟩;have HJ:=ah hJ;rw [←hJ] at hco hfo QJ;have hJi:(i:Int)+(j:Int)=(J:Int):=by omega
   have HXD:=ah (QS (Z:=Z) (y:=y) (j:=j) hiN);have HD:=ah (DK (Z / BB ^ j) y i);have HC:=ah (uH (Z / BB ^ j) y i);have hc1:=xI (Z / BB ^ j) y i;have Hl:=fZ (Z / BB ^ j) i;clear hJ;generalize hcn:eG (Z / BB ^ j) y (i+1)=cn at *;have vU:=ah hcn;generalize eG (Z / BB ^ j) y i=c at *;generalize dg (Z / BB ^ j) i=x at *;generalize dg (Z / BB ^ j+y) i=d at *;clear hcn;by_cases hin:i<N
   ·have hcy:=(og (o:=i) HG.out hh (by intro e;injection e with e;exact Hne.out e)).trans (HY.out i hin);have Hg:=fZ y i;generalize dg y i=yd at *;obtain ⟨s,hs⟩:∃s:Nat,(x:Int)+(c:Int)+(yd:Int)=(s:Int):=⟨x+c+yd,by omega⟩;have hs9:(s:Int)≤2999999999:=by omega
    have hsn:c+x+yd=s:=by omega
    rw [hsn] at HD HC;have HM:=ah (Am HD.out);have HV:=ah (Ao HC.out);clear HD HC hsn;go_wp2
    rw [HM.out,HV.out];exact ⟨⟨i+1,by omega,by go_num,by rw [vU.out],by rw [HJ.out,←HXD.out];exact HR.out.up (by omega),jw HG.out (lD _ _ _ _)⟩,by simp [intOf]<;>omega⟩
   ·obtain rfl:i=N:=by omega
    have hy0:=Hyz.out;rw [hy0,Nat.add_zero] at HD HC;obtain ⟨s,hs⟩:∃s:Nat,(x:Int)+(c:Int)=(s:Int):=⟨x+c,by omega⟩;have hs9:(s:Int)≤2999999999:=by omega
    have hsn:c+x=s:=by omega
    rw [hsn] at HD HC;have HM:=ah (Am HD.out);have HV:=ah (Ao HC.out);clear HD HC hsn hy0;go_wp2
    rw [HM.out,HV.out];exact ⟨⟨i+1,by omega,by go_num,by rw [vU.out],by rw [HJ.out,←HXD.out];exact HR.out.up (by omega),jw HG.out (lD _ _ _ _)⟩,by simp [intOf]<;>omega⟩
  ·obtain rfl:i=N+1:=by omega
   have Hr:=ah (show Row base _ g T cx (bI (qU Z y j (N+1)) T) by rw [←HE.out];exact HR.out);generalize eG (Z / BB ^ j) y (N+1)=b at *;clear HE HR;go_wp2
   go_end0
   exact ⟨⟨_,rfl⟩,Hr.out,HG.out⟩
theorem own_below {w w':World} {B base e size n:Nat} {v:Value} {xs:List Value} (h:w.ownsRow base e size v n xs) (hb:Below B w w') (hv:∀g,v.ownBlock=some g→g<B):w'.ownsRow base e size v n xs:=by
 refine ⟨h.1,?_⟩;rcases h.2 with h' | ⟨g,cap,cur,rfl,h1,h2,h3⟩
 ·exact .inl h'
 ·exact .inr ⟨g,cap,cur,rfl,h1,(hb.block g (hv g rfl)).trans h2,h3⟩
theorem Ms {w w':World} {base e size n:Nat} {r:Option Nat} {v:Value} {xs:List Value} (h:w.ownsRow base e size v n xs) (hg:w.grownBy w' r) (hv:v.ownBlock=none∨v.ownBlock≠r):w'.ownsRow base e size v n xs:=h.kept hg hv
theorem Mv {w:World} {base base' e size n:Nat} {v:Value} {xs:List Value} (h:w.ownsRow base e size v n xs) (hv:base'≤base):w.ownsRow base' e size v n xs:=by
 refine ⟨h.1,?_⟩;rcases h.2 with h' | ⟨g,cap,cur,rfl,h1,h2,h3⟩
 ·exact .inl h'
 ·exact .inr ⟨g,cap,cur,rfl,by omega,h2,h3⟩
theorem oz {w:World} {base:Nat} {e:TypeId} {size:Nat} {v:Value} {n:Nat} {xs:List Value} (h:w.ownsRow base e size v n xs) (hn:0<n):∃g cap,v=.slice (some ⟨g,0,none⟩) n cap:=by
 rcases h.2 with ⟨rfl,rfl⟩ | ⟨g,cap,cur,rfl,_⟩
 ·omega
 ·exact ⟨_,_,rfl⟩
theorem Ei {w:World} {base n g cap c:Nat} {xs:List Value} {a:Addr} {u:Value} (ty:TypeId) (hown:w.ownsRow base 3 1 (.slice (some ⟨g,0,none⟩) n cap) n xs)
  (hnews:∀j x,[u][j]?=some x→w.cell? (a.add j)=some x) (h1:∀x∈[u],x.oneCell'=true) (hn:n≤100) (hbase:base≤w.heap.size) :
  ∃g' cap' w',(Builtin.append_ #[97,97] ty #[.slice (some ⟨g,0,none⟩) n cap,.slice (some a) 1 c]).run Tryz.prog w=.ok (.slice (some ⟨g',0,none⟩) (n+1) cap') w'∧
   w'.ownsRow base 3 1 (.slice (some ⟨g',0,none⟩) (n+1) cap') (n+1) (xs++[u])∧w.grownBy w' (some g)∧(g'=g∨g'=w.heap.size):=by
 obtain ⟨i0,hi,hz0,hz1,hz2⟩:=info_parts lT;obtain ⟨v',w',hr,o1,o2,_⟩:=run_append_own (P:=Tryz.prog) w base 97 ty 3 i0 (.int .i64 0) 1 8 Tryz.underlying97 hi hz0 hz1 hz2 rfl (by decide) _ n xs hown a 1 c [u] rfl hnews h1 (by unfold maxLen;omega) (by omega) hbase;obtain ⟨g',cap',rfl⟩:=oz o1 (by omega);refine ⟨g',cap',w',hr,o1,o2,?_⟩;rcases hown.2 with ⟨h',_⟩ | ⟨g2,cap2,cur,h',hbg,hg,hnc,hcm,hcs,htake⟩
 ·simp at h'
 ·injection h' with e1 e2 e3;injection e1 with e1;injection e1 with e1;subst e1 e3;by_cases hroom:n+1≤cap
  ·obtain ⟨w2,hr2,_⟩:=run_append_fits (P:=Tryz.prog) w base 97 ty 3 i0 1 Tryz.underlying97 hi hz1 g n cap xs hown a 1 c [u] rfl hnews h1 hroom;rw [hr] at hr2;injection hr2 with hr2;injection hr2 with hr2;injection hr2 with hr2;injection hr2 with hr2;exact .inl hr2
  ·have holds:∀j u,xs[j]?=some u→w.cell? ((⟨g,0,none⟩:Addr).add j)=some u:=hown.cells (g:=g) rfl;have hr2:=run_append_grow (P:=Tryz.prog) w 97 ty 3 i0 (.int .i64 0) Tryz.underlying97 hi hz0 ⟨g,0,none⟩ n cap xs (by rw [hz1];exact hown.1) holds a 1 c [u] (by rw [hz1];rfl) hnews (by omega) (by omega) (growslice_fits (by omega) (by rw [hz2];omega));rw [hr] at hr2;injection hr2 with hr2;injection hr2 with hr2;injection hr2 with hr2;injection hr2 with hr2;exact .inr hr2
theorem tN (w:World) {ops:Array Oper} {rest:List Oper} {o:Oper} {a:Act} {Q:Exit→Act→World→Prop} (hgd:o.guard=none) (s x:Operand)
  (ho:o.op=.call { callee:=.builtin .append,args:=#[s,x],argTypes:=#[97,97] })
  (base n g cap c:Nat) (xs:List Value) (ad:Addr) (u:Value) (hs:a.eval s=.slice (some ⟨g,0,none⟩) n cap) (hx:a.eval x=.slice (some ad) 1 c)
  (hown:w.ownsRow base 3 1 (.slice (some ⟨g,0,none⟩) n cap) n xs)
  (hnews:∀j x,[u][j]?=some x→w.cell? (ad.add j)=some x) (h1:∀x∈[u],x.oneCell'=true) (hn:n≤100) (hbase:base≤w.heap.size)
  (h:∀g' cap' w',w'.ownsRow base 3 1 (.slice (some ⟨g',0,none⟩) (n+1) cap') (n+1) (xs++[u])→w.grownBy w' (some g)→(g'=g∨g'=w.heap.size)→wpList Tryz.prog ops Q rest (a.put o.dst (.slice (some ⟨g',0,none⟩) (n+1) cap')) w'):wpList Tryz.prog ops Q (o::rest) a w:=by
 refine wpList_plain hgd fun K hK'=>?_;obtain ⟨g',cap',w',hrun,r1,r2,r3⟩:=Ei (c:=c) o.type hown hnews h1 hn hbase;unfold Oper.wp;simp [execOp,ho,resolve,invoke,builtin,hs,hx,hrun,Result.andThen];exact hK' _ _ (h g' cap' w' r1 r2 r3)
def DivP (q r:Nat) (w:World) (e:Ending) (w':World):Prop:=∃v1 v2,e=.returned (.tuple #[v1,v2])∧gP w'.heap.size w' v1 q∧gP w'.heap.size w' v2 r∧Below w.heap.size w w'
theorem isN_nil (B:Nat) (w:World):gP B w (.slice none 0 0) 0:=⟨0,Ab,none,0,rfl,by omega,by omega,by decide,by omega⟩
theorem iV {w:World} {base e n L:Nat} {v:Value} (h:w.ownsRow base e 1 v L (bI n L)) (hl:fT n L):gP w.heap.size w v n:=⟨L,hl,rA.uJ h hl.1⟩
theorem DL {a b:Nat} (h:b≤a):0≤wV a b:=by
 unfold wV;rw [if_neg (by omega)];split<;>omega
def OrdQ (o:Int) (w:World) (e:Ending) (w':World):Prop:=e=.returned (.int .i64 o)∧Below w.heap.size w w'
theorem vw (B n m:Nat) (o:Int) (v u:Value) (w:World) (hB:B≤w.heap.size) (ho:wV n m=o) (hv:gP B w v n) (hu:gP B w u m):Calls Tryz.prog 81 #[v,u] w (OrdQ o w):=by
 subst ho;exact Mw B n m v u w hB hv hu
theorem Rj (B a b:Nat) (v u:Value) (w:World) (hB:B≤w.heap.size) (hlt:a<b) (hv:gP B w v a) (hu:gP B w u b):Calls Tryz.prog 101 #[v,u] w (DivP (a / b) (a % b) w):=by
 have HO:=ah (vw B a b (-1) v u w hB (tq hlt) hv hu);have HV:=ah hv;have HQ:=ah (Nat.div_eq_of_lt hlt);have HR:=ah (Nat.mod_eq_of_lt hlt);obtain ⟨La,hLa,ao,cap,rfl,_⟩:=hv;obtain ⟨Lb,hLb,bo,cap2,rfl,_⟩:=hu;clear hlt hLa hLb;go_enter Tryz.func101,Tryz.ntmps101;go_wp2_with (go_at_call 81;refine HO.out.mono ?_;rintro e w1 ⟨rfl,hb1⟩);have HB1:=ah hb1;clear hb1;go_wp2
 go_ret2
 have hb:=HB1.out;exact ⟨_,_,rfl,by rw [HQ.out];exact isN_nil _ _,by rw [HR.out];exact (HV.out.below (hb.mono hB)).more (by have:=hb.size;omega),hb⟩
theorem div_one (B a b:Nat) (v u:Value) (w:World) (hB:B≤w.heap.size) (fa:Fit a) (hle:b≤a) (hb1:fT b 1) (hv:gP B w v a) (hu:gP B w u b):Calls Tryz.prog 101 #[v,u] w (DivP (a / b) (a % b) w):=by
 obtain ⟨o,ho⟩:∃o,wV a b=o:=⟨_,rfl⟩;have HO:=ah (vw B a b o v u w hB ho hv hu);have ho0:0≤o:=by rw [←ho];exact DL hle
 have hod:decide (o<0)=false:=by simpa using ho0
 obtain ⟨La,hLa,ao,cap,rfl,c1,c2,hn,hx⟩:=hv;obtain ⟨Lb,hLb,bo,cap2,rfl,d1,d2,hm,hy⟩:=hu;obtain rfl:=mI hLb hb1;have hl:=fa.len hLa;obtain ⟨b0,off,rfl,hbb,hcy⟩:=hy (by omega);have hc0:=hcy 0 (by omega)
 have hbd:dg b 0=b:=by
  unfold dg;rw [Nat.pow_zero,Nat.div_one];exact Nat.mod_eq_of_lt (by simpa using hb1.1)
 rw [hbd] at hc0;have MX:(b:Int)≤999999999:=by have:=hb1.1;unfold BB at this;omega
 have hb0:(0:Int)<(b:Int):=by have:=hb1.2 (by omega);simp at this;omega
 have HRW:=ah (show rA B w (.slice ao La cap) a La from ⟨_,_,rfl,c1,c2,hn,hx⟩);clear hle hLa hLb hn hx hm hy hcy hbd ho hb1 fa;go_enter Tryz.func101,Tryz.ntmps101;go_wp2_with fail;refine HO.out.mono ?_;rintro e w1 ⟨rfl,hb1⟩;have HB1:=ah hb1;have hc1:=(hb1.cell (p:=⟨b0,off,none⟩) (by show b0<_;omega)).trans hc0;have hsz:=hb1.size;have HR1:=ah (HRW.out.below (hb1.mono hB));clear hb1 hc0;go_wp2_with fail;refine (BL B a b La _ _ (by omega) (by omega) hb0 MX HR1.out).mono ?_;rintro e w2 ⟨v2,L2,rfl,hl2,ho2,hb2⟩;have HL2:=ah hl2;have nT:=ah ho2;have HB2:=ah hb2;obtain ⟨Ry,nI,rfl⟩:=bK ho2;have hr9:a % b≤9223372036854775807:=by have:=Nat.mod_lt a (show 0<b by omega);omega
 clear hl2 ho2 hb2;generalize a % b=r at *;go_wp2_with fail;refine (kZ r _ hr9).mono ?_;rintro e w3 ⟨v3,L3,rfl,hl3,ho3,hb3⟩;have xB:=iV ho3 hl3;clear ho3;have HN3:=ah xB;have HB3:=ah hb3;obtain ⟨L4,_,ao4,cap4,rfl,_⟩:=xB;clear hb3;go_wp2
 go_ret2
 refine ⟨_,_,rfl,?_,HN3.out,?_⟩
 ·exact iV (own_below nT.out HB3.out (fun g hg=>(nT.out.lt g hg).2)) HL2.out
 ·exact (HB1.out.trans (HB2.out.mono hsz)).trans (HB3.out.mono (by have:=HB2.out.size;omega))
theorem z8 (a y j:Nat) (hy:0<y):kR a y (j+1) / BB ^ j / y=dg (a / y) j∧kR a y (j+1) / BB ^ j<y*BB:=by
 obtain ⟨h1,h2,h3⟩:=wX a y j hy;rw [(rJ a y j).1];exact ⟨h1,h3⟩
theorem J8 {W y q:Nat} (h:q≤W / y+1):q*y≤W+y:=by
 have h1:q*y≤(W / y+1)*y:=Nat.mul_le_mul_right _ h;have h2:=Nat.div_mul_le_self W y;rw [Nat.add_mul,Nat.one_mul] at h1;omega
theorem J7 {W y N:Nat} (h:W<y*BB) (hy:y<BB ^ N):W<BB ^ (N+1):=by
 have:y*BB<BB ^ N*BB:=Nat.mul_lt_mul_of_pos_right hy nN;rw [←Nat.pow_succ] at this;exact Nat.lt_trans h this
theorem long_no {a y j q n:Nat} (hy:0<y) (h1:dg (a / y) j≤q) (h:q*y≤kR a y (j+1) / BB ^ j):q=dg (a / y) j∧mZ (kR a y (j+1)) y q j n=kR a y j:=by
 have hq:q=dg (a / y) j:=by
  have:=(Nat.le_div_iff_mul_le hy).2 h;rw [(z8 a y j hy).1] at this;omega
 refine ⟨hq,?_⟩;unfold mZ qR kJ;rw [if_pos h,BO a y j hy,(rJ a y j).1,(rJ a y j).2,←hq,Nat.add_comm]
theorem MQ {a y j q N:Nat} (hy:0<y) (hyN:y<BB ^ N) (h1:q≤dg (a / y) j+1) (h:kR a y (j+1) / BB ^ j<q*y) :
  q=dg (a / y) j+1∧qU (mZ (kR a y (j+1)) y q j (N+1)) y j (N+1)=kR a y j∧mZ (kR a y (j+1)) y q j (N+1) / BB ^ j<BB ^ (N+1):=by
 obtain ⟨w1,w2⟩:=z8 a y j hy
 have hq:q=dg (a / y) j+1:=by
  have:=(Nat.div_lt_iff_lt_mul hy).2 h;rw [w1] at this;omega
 have hW:=J7 w2 hyN;have hy':y<BB ^ (N+1):=iU hyN (by omega);have hm:q*y≤kR a y (j+1) / BB ^ j+y:=J8 (by rw [w1];exact h1);have hg:=giveV hy' hm (by omega);refine ⟨hq,?_,?_⟩
 ·unfold qU mZ;rw [rW,hg];unfold kJ;rw [Nat.add_mul_mod_self_right,Nat.mod_mod,BO a y j hy,(rJ a y j).1,(rJ a y j).2,hq,Nat.add_sub_cancel,Nat.add_comm]
 ·unfold mZ;rw [rW];exact (rG hW hy' hm).1
theorem Mi {d q:Nat} (h:BB / d=q):Int.tdiv 1000000000 (d:Int)=(q:Int)∧(1000000000:Int) / (d:Int)=(q:Int):=wQ (s:=1000000000) h
theorem guess_N (X y j M N T g h cx cy:Nat) (w:World) (hN:N=M+2) (hy:fT y N) (hX:X / BB ^ j<y*BB) (hj:j+N<T) (hT:T≤100)
  (hcx:∀i,i<T→w.cell? ⟨g,i,none⟩=some (.int .i64 (dg X i:Nat))) (hcy:∀i,i<N→w.cell? ⟨h,i,none⟩=some (.int .i64 (dg y i:Nat))) :
  Calls Tryz.prog 110 #[.slice (some ⟨g,0,none⟩) T cx,.slice (some ⟨h,0,none⟩) N cy,.int .i64 j] w (J5 (X / BB ^ j / y) w):=by
 subst hN;exact Nc X y j M T g h cx cy w hy hX hj hT hcx hcy
def YC (w:World) (g y N:Nat):Prop:=g<w.heap.size∧∀i,i<N→w.cell? ⟨g,i,none⟩=some (.int .i64 (dg y i:Nat))
theorem YC.grown {w w':World} {g y N:Nat} {r:Option Nat} (h:YC w g y N) (hg:w.grownBy w' r) (hn:some g≠r):YC w' g y N:=
 ⟨Nat.lt_of_lt_of_le h.1 hg.size,fun i hi=>(og hg h.1 hn).trans (h.2 i hi)⟩
theorem YC.below {w w':World} {g y N:Nat} (h:YC w g y N) (hb:Below w.heap.size w w'):YC w' g y N:=
 ⟨Nat.lt_of_lt_of_le h.1 hb.size,fun i hi=>(hb.cell (p:=⟨g,i,none⟩) h.1).trans (h.2 i hi)⟩
theorem YC.uJ {w:World} {base g y N c:Nat} (h:w.ownsRow base 3 1 (.slice (some ⟨g,0,none⟩) N c) N (bI y N)):YC w g y N:=
 ⟨(h.lt g rfl).2,fun i hi=>(World.ownsRow.cellAt h i (by omega)).trans (xE hi)⟩
theorem Row.grown {base g T cap:Nat} {w w':World} {xs:List Value} {r:Option Nat} (h:Row base w g T cap xs) (hg:w.grownBy w' r) (hn:some g≠r):Row base w' g T cap xs:=Ms h hg (.inr hn)
theorem lJ {a b:Nat} (h:a≠b):some a≠some b:=fun e=>h (by injection e)
theorem mM {B g:Nat} {w wr w2:World} (hb:Below B w wr) (hg:wr.grownBy w2 (some g)) (h1:B≤g) (hs:B≤wr.heap.size):Below B w w2:=hb.grown hg hs (fun k hk=>by injection hk with hk;omega)
theorem Ri (B a b M N:Nat) (v u:Value) (w:World) (hB:B≤w.heap.size) (fa:Fit a) (hle:b≤a) (eN:N=M+2) (hb1:fT b N) (hv:gP B w v a) (hu:gP B w u b):Calls Tryz.prog 101 #[v,u] w (DivP (a / b) (a % b) w):=by
 obtain ⟨o,ho⟩:∃o,wV a b=o:=⟨_,rfl⟩;have HO:=ah (vw B a b o v u w hB ho hv hu);have ho0:0≤o:=by rw [←ho];exact DL hle
 have hod:decide (o<0)=false:=by simpa using ho0
 have HV:=ah hv;have HU:=ah hu;have fb:Fit b:=fa.le hle;have FA:=ah fa;have FB:=ah fb;obtain ⟨La,hLa,ao,cap,rfl,c1,c2,hn,hx⟩:=hv;obtain ⟨Lb,hLb,bo,cap2,rfl,d1,d2,hm,hy⟩:=hu;obtain rfl:=mI hLb hb1;have hl:=fa.len hLa;have hMl:=fb.len hb1;have hN2:2≤Lb:=by omega
 have hNL:Lb≤La:=by
  by_cases h:La<Lb
  ·have:=vE hLa hb1 h;omega
  ·omega
 obtain ⟨b0,off,rfl,hbb,hcy⟩:=hy (by omega);obtain ⟨N1,eN1⟩:∃N1:Nat,N1=Lb-1:=⟨_,rfl⟩;have n1:(Lb:Int)-1=(N1:Int):=by omega
 have n2:N1<Lb:=by omega
 have hc0:=hcy N1 n2;have hbt9:=fZ b N1;obtain ⟨f,hf⟩:∃f,f=BB / (dg b (Lb-1)+1):=⟨_,rfl⟩;obtain ⟨f0,f1,f2,f3⟩:=Nn hb1 (by omega) hf;rw [←eN1] at hf;have hf0:(0:Int)<(f:Int):=by omega
 have hf9:(f:Int)≤500000000:=by unfold BB at f2;omega
 obtain ⟨bt1,hbt1⟩:∃t:Nat,(dg b N1:Int)+1=(t:Int):=⟨dg b N1+1,by omega⟩;have hbt1':dg b N1+1=bt1:=by omega
 rw [hbt1'] at hf;obtain ⟨q1,q2⟩:=Mi hf.symm;have hbt10:(0:Int)<(bt1:Int):=by omega
 have hbt19:(bt1:Int)≤1000000000:=by omega
 have ha0:0<f*a:=Nat.mul_pos f0 (Nat.lt_of_lt_of_le (Nat.lt_of_lt_of_le (pQ _) (hb1.2 (by omega))) hle);have hb0':0<f*b:=Nat.lt_of_lt_of_le (pQ _) (f3.2 (by omega));have hxl:=LH hn f0 (by omega);have hqs:=IE hLa hb1 (by omega) hNL f0;obtain ⟨e1,e2⟩:=Pp (a:=a) (b:=b) f0;have Dj:=ah e1;have Hr:=ah e2;have G7:=ah hqs;have HXL:=ah hxl;have RI:=ah f3;have HA0:=ah ha0;have HB0:=ah hb0';have HN:=ah eN;generalize dg b N1=bt at *;clear hle hLa hLb hn hx hm hy hcy ho hb1 fa fb hf f0 f1 f2 f3 ha0 hb0' hxl hqs e1 e2 hbt1' eN eN1;go_enter Tryz.func101,Tryz.ntmps101;go_wp2_with fail;refine HO.out.mono ?_;rintro e w1 ⟨rfl,hb1⟩;have HB1:=ah hb1;have hct:=(hb1.cell (p:=⟨b0,off+N1,none⟩) (by show b0<_;omega)).trans hc0;have hsz:=hb1.size;have HVw:=ah (HV.out.below (hb1.mono hB));have HUw:=ah (HU.out.below (hb1.mono hB));clear hb1 hc0 HO HV HU;go_wp2_with fail;refine (zy B a f _ w1 (by omega) FA.out hf0 hf9 HVw.out).mono ?_;rintro e w2 ⟨vx,Lx,rfl,hlx,hox,hb2⟩
 obtain ⟨gx,cx,rfl⟩:=oz hox (by
  by_cases h:Lx=0
  ·exact absurd ((eu hlx).2 h) (Nat.ne_of_gt HA0.out)
  ·omega)
 have rD:=ah hlx;have uq:=ah hox;have HB2:=ah hb2;have HUw2:=ah (HUw.out.below (hb2.mono (Nat.le_trans hB hsz)));have hsz2:=hb2.size;clear hlx hox hb2;go_wp2_with fail;refine (zy B b f _ w2 (by omega) FB.out hf0 hf9 HUw2.out).mono ?_;rintro e w3 ⟨vy,Ly,rfl,hly,hoy,hb3⟩;obtain rfl:=mI hly RI.out;obtain ⟨gy,cy,rfl⟩:=oz hoy (by omega);have hgx:gx<w2.heap.size:=(uq.out.lt gx rfl).2;have hgy:=(hoy.lt gy rfl).1;have HYC:=ah (YC.uJ hoy);have HOX3:=ah (Mv (own_below uq.out hb3 (fun g hg=>by cases hg;exact hgx)) (show w.heap.size≤w1.heap.size from hsz));have HB3:=ah ((HB1.out.trans (HB2.out.mono hsz)).trans (hb3.mono (Nat.le_trans hsz hsz2)));have hsz3:=hb3.size;have hLxT:Lx≤La+1:=rY rD.out HXL.out;clear hly hoy hb3 uq HB1 HB2 HVw HUw HUw2 q1 q2 hct;go_wp2
 go_loopw [9] (fun x wr=>∃T g c:Nat,T≤La+1∧x=.slice (some ⟨g,0,none⟩) T c∧Lx≤T∧wr.ownsRow w.heap.size 3 1 (.slice (some ⟨g,0,none⟩) T c) T (bI (f*a) T)∧g≠gy∧YC wr gy (f*b) Ly∧Below w.heap.size w wr) (fun x _=>match x with | .slice _ n _=>La+2-n | _=>0)
 case atStart=>exact ⟨Lx,gx,cx,by omega,rfl,Nat.le_refl _,HOX3.out,by omega,HYC.out,HB3.out⟩
 case round=>
  obtain ⟨T,g,c,hT,rfl,hT2,hox,hne,hyc,hb⟩:=hrel;have uq:=ah hox;have HYC2:=ah hyc;have HB:=ah hb;have hsz4:=hb.size;have hgs:gy<_:=hyc.1;have hgx2:=(hox.lt g rfl).2;have hgx1:=(hox.lt g rfl).1;clear hox hyc hb HOX3 HYC HB3;by_cases hTL:T≤La
  ·have HD:=ah (show dg (f*a) T=0 from bV (iU rD.out.1 hT2));go_wp2_with (at_builtin;refine tN _ rfl _ _ rfl w.heap.size T g c 1 (bI (f*a) T) _ (.int .i64 0) rfl rfl (uq.out.alloc _) (jK _ _ _ _) (jM _) (by omega) (by simp;omega) ?_);intro g' c' w4 ho4 hg4 hw4;have HO4:=ah (show w4.ownsRow w.heap.size 3 1 (.slice (some ⟨g',0,none⟩) (T+1) c') (T+1) (bI (f*a) (T+1)) by rw [sw,HD.out];exact ho4)
   have hne4:g'≠gy:=by
    rcases hw4 with h | h
    ·omega
    ·omega
   have HYC4:=ah ((HYC2.out.grown (World.grownBy_alloc _ _ none) (by simp)).grown hg4 (lJ (Ne.symm hne)));have pU:=ah ((HB.out.alloc hsz4 _).grown hg4 (by simp;omega) (fun k hk=>by injection hk with hk;omega));clear ho4 hg4 hw4;go_wp2
   exact ⟨⟨T+1,g',c',by omega,rfl,by omega,HO4.out,hne4,HYC4.out,pU.out⟩,by show La+2-(T+1)<La+2-T;omega⟩
  ·have hTe:T=La+1:=by omega
   have hgt:La<T:=by omega
   have hdT:decide (T≤La)=false:=by simpa using hgt
   obtain ⟨K,hK⟩:∃K:Nat,K=T-Ly:=⟨_,rfl⟩;have hKi:(T:Int)-(Ly:Int)=(K:Int):=by omega
   have hK0:0<K:=by omega
   have hKT:K+Ly=T:=by omega
   have HX0:=ah (show Row w.heap.size _ g T c (bI (kR (f*a) (f*b) K) T) by rw [Po (show qN (f*a) K<f*b by have:=G7.out;rwa [show La+1-Ly=K by omega] at this)];exact uq.out)
   have HQT:=ah (show a / b<BB ^ K by
    have h:=G7.out;rw [show La+1-Ly=K by omega] at h;unfold qN at h;have h2:=(Nat.div_lt_iff_lt_mul (pQ K)).1 h;rw [←Dj.out];exact (Nat.div_lt_iff_lt_mul HB0.out).2 (by rw [Nat.mul_comm (BB ^ K)];exact h2))
   obtain ⟨i0,hi,hz0,hz1,hz2⟩:=info_parts lT;have Hi:=ah hi;have Bu:=ah hz0;have Bt:=ah hz1;have Br:=ah hz2;clear hi hz0 hz1 hz2 hTe hTL uq G7 hK;go_wp2_with (at_make;refine wpList_make_full _ rfl _ _ 97 rfl w.heap.size 3 i0 (.int .i64 0) 1 Tryz.underlying97 Hi.out Bu.out Bt.out .i64 .i64 _ _ K rfl rfl ?c1 ?c2 ?c3 ?c4 ?c5 ?_)
   case c1=>rfl
   case c2=>rfl
   case c3=>rw [Br.out];omega
   case c4=>unfold maxLen;omega
   case c5=>omega
   intro w5 DZ hg5;rw [toList_madeCells_one,sj] at DZ;have HQ5:=ah (show Row w.heap.size w5 _ K K (dw 0 (f*a / (f*b)) K K) by rw [zZ (Nat.le_refl _)];exact DZ);have HX5:=ah (HX0.out.grown hg5 (by simp));have HYC5:=ah (HYC2.out.grown hg5 (by simp));have nU:=ah (HB.out.grown hg5 hsz4 (by simp));have hsz5:=hg5.size;have hgq5:=(DZ.lt _ rfl).2;obtain ⟨wo,rfl⟩:∃wo:World,wo=wr:=⟨_,rfl⟩;clear DZ hg5 HX0 HYC2 HB Hi Bu Bt Br;generalize wo.heap.size=gq at *;go_wp2
   go_loopw [13] (fun jj wr=>∃k:Nat,k≤K∧jj=.int .i64 ((k:Int)-1)∧Row w.heap.size wr g T c (bI (kR (f*a) (f*b) k) T)∧Row w.heap.size wr gq K K (dw 0 (f*a / (f*b)) k K)∧YC wr gy (f*b) Ly∧Below w.heap.size w wr) (fun jj _=>(intOf jj+1).toNat)
   case atStart=>exact ⟨K,Nat.le_refl _,rfl,HX5.out,HQ5.out,HYC5.out,nU.out⟩
   case round=>
    obtain ⟨k,hk,rfl,hrx,hrq,hyc,hb⟩:=hrel;have Di:=ah hrx;have HRQ:=ah hrq;have HYC:=ah hyc;have HB:=ah hb;have hsz6:=hb.size;have hlg:=hrx.block.2;have hlq:=hrq.block.2;have hly:=hyc.1;clear hrx hrq hyc hb HX5 HQ5 HYC5 nU;by_cases h0:k=0
    ·subst h0;have hxl:f*a % (f*b)<BB ^ T:=Nat.lt_of_le_of_lt (Nat.mod_le _ _) (iU HXL.out (by omega));have HXT:=ah hxl;have HRX0:=ah (show World.ownsRow wr w.heap.size 3 1 (.slice (some ⟨g,0,none⟩) T c) T (bI (f*a % (f*b)) T) by rw [←Md];exact Di.out);have HRQ0:=ah (show World.ownsRow wr w.heap.size 3 1 (.slice (some ⟨gq,0,none⟩) K K) K (bI (a / b) K) by rw [←Dj.out,←yt (A:=0)];exact HRQ.out);clear hxl Di HRQ;go_wp2_with fail;refine (mY _ _ _ _ _ HRX0.out HXT.out).mono ?_;rintro e w6 ⟨⟨v6,L6,rfl,Oe,ho6⟩,rfl⟩;obtain ⟨ao6,cap6,rfl⟩:=bK ho6;have hL6:L6≤40:=by have:=rY Oe HXT.out;omega
     have Bw:=ah (rA.uJ ho6 Oe.1);clear Oe ho6;go_wp2_with fail;refine (BL wr.heap.size (f*a % (f*b)) f L6 _ wr (Nat.le_refl _) hL6 hf0 (by omega) Bw.out).mono ?_;rw [Hr.out];rintro e w7 ⟨v7,L7,rfl,Qy,ho7,xD⟩;have HI7:=ah (iV ho7 Qy);obtain ⟨ao7,cap7,rfl⟩:=bK ho7;have G6:=ah (own_below HRQ0.out xD (fun g hg=>(HRQ0.out.lt g hg).2));have Ov:=ah (HB.out.trans (xD.mono hsz6));clear Qy ho7 xD;go_wp2_with fail;refine (mY _ _ _ _ _ G6.out HQT.out).mono ?_;rintro e w8 ⟨⟨v8,L8,rfl,Qx,ho8⟩,rfl⟩;obtain ⟨ao8,cap8,rfl⟩:=bK ho8;have HI8:=ah (iV ho8 Qx);clear Qx ho8;go_wp2
     go_ret2
     exact ⟨_,_,rfl,HI8.out,HI7.out,Ov.out⟩
    ·obtain ⟨j,rfl⟩:∃j,k=j+1:=⟨k-1,by omega⟩;have e1:((j+1:Nat):Int)-1=(j:Nat):=by omega
     rw [e1];have hjK:j<K:=by omega
     have hjT:j+Ly<T:=by omega
     obtain ⟨w1',w2'⟩:=z8 (f*a) (f*b) j HB0.out;have HWE:=ah w1';have HWL:=ah w2';have hqd9:=fZ (f*a / (f*b)) j;have hqd:=nH (f*a / (f*b)) j;clear h0 e1 w1' w2';go_wp2_with fail;refine (guess_N (kR (f*a) (f*b) (j+1)) (f*b) j M Ly T g gy c cy _ HN.out RI.out HWL.out hjT (by omega) (fun i hi=>Di.out.atD hi) HYC.out.2).mono ?_;rintro e w6 ⟨⟨qh,rfl,hq1,hq2⟩,nn,rfl⟩;rw [HWE.out] at hq1 hq2;have hfq:=HRQ.out.free j;have hcq:=HRQ.out.at hjK;have hqh9:(qh:Int)≤1000000000:=by omega
     have HWM:=ah (J8 (W:=kR (f*a) (f*b) (j+1) / BB ^ j) (y:=f*b) (q:=qh) (by rw [HWE.out];exact hq2));have HWP:=ah (J7 HWL.out RI.out.1);go_wp2_with fail;obtain ⟨st1,st2⟩:=World.ownsRow.stored (HRQ.out.drawn (n:=nn)) j (.int .i64 qh);have G6:=ah (show Row w.heap.size _ gq K K _ from st1);have HRX7:=ah ((Di.out.drawn (n:=nn)).grown st2 (lJ (by omega)));have RH:=ah (YC.grown (w:=wr.drewN nn) HYC.out st2 (lJ (by omega)));have Ov:=ah (mM (below_drewN (n:=nn) HB.out) st2 (by omega) hsz6);have hsz7:=st2.size
     have hcq7:((wr.drewN nn).setCell ⟨gq,j,none⟩ (.int .i64 qh)).cell? ⟨gq,j,none⟩=some (.int .i64 qh):=by
      refine (World.ownsRow.cellAt G6.out j (by omega)).trans ?_;simp [nA,hjK]
     have hfq7:=G6.out.free j;have hsz8:w.heap.size≤((wr.drewN nn).setCell ⟨gq,j,none⟩ (.int .i64 qh)).heap.size:=Ov.out.size;generalize (wr.drewN nn).setCell ⟨gq,j,none⟩ (.int .i64 qh)=w7 at *;clear st1 st2 Di HRQ HYC HB hcq hfq hsz7;refine (MC w.heap.size (kR (f*a) (f*b) (j+1)) (f*b) qh j Ly T g gy c cy w7 HWP.out RI.out.1 HWM.out hqh9 hjT (by omega) (by omega) RH.out.1 HRX7.out RH.out.2).mono ?_;rintro e w8 ⟨rfl,Kv,hg8⟩;have hgq8:gq<w7.heap.size:=G6.out.block.2;have RP:=ah (G6.out.grown hg8 (lJ (by omega)));have HYC8:=ah (RH.out.grown hg8 (lJ (by omega)));have K6:=ah (mM Ov.out hg8 (by omega) hsz8);have hsz9:w.heap.size≤w8.heap.size:=K6.out.size;have hcq8:=(og (o:=j) hg8 hgq8 (lJ (by omega))).trans hcq7;have hfq8:=RP.out.free j;by_cases hov:kR (f*a) (f*b) (j+1) / BB ^ j<qh*(f*b)
     ·rw [Ca hov];obtain ⟨z1,z2,z3⟩:=MQ HB0.out RI.out.1 hq2 hov;have HZ2:=ah z2;have HZ3:=ah z3;have HZ1:=ah z1;have HRX8:=ah Kv;have hz1:(qh:Int)-1=((dg (f*a / (f*b)) j:Nat):Int):=by omega
      clear z2 z3 z1 hov Kv hg8 HRX7 G6 RH Ov hcq7 hfq7;go_wp2_with fail;obtain ⟨st1,st2⟩:=World.ownsRow.stored RP.out j (.int .i64 ((dg (f*a / (f*b)) j:Nat):Int));rw [List.set_set,rV hjK] at st1;have HRQ9:=ah (show Row w.heap.size _ gq K K _ from st1);have HRX9:=ah (HRX8.out.grown st2 (lJ (by omega)));have HYC9:=ah (HYC8.out.grown st2 (lJ (by omega)));have HB9:=ah (mM K6.out st2 (by omega) hsz9);have hsz10:w.heap.size≤(w8.setCell ⟨gq,j,none⟩ (.int .i64 ((dg (f*a / (f*b)) j:Nat):Int))).heap.size:=HB9.out.size;generalize w8.setCell ⟨gq,j,none⟩ (.int .i64 ((dg (f*a / (f*b)) j:Nat):Int))=w9 at *;clear st1 st2 HRX8 RP HYC8 K6 hcq8 hfq8;refine (QO w.heap.size _ (f*b) j Ly T g gy c cy w9 HZ3.out RI.out.1 hjT (by omega) (by omega) HYC9.out.1 HRX9.out HYC9.out.2).mono ?_;rintro e w10 ⟨⟨v,rfl⟩,Qr,hg10⟩;have HRX10:=ah (show Row w.heap.size w10 g T c (bI (kR (f*a) (f*b) j) T) by rw [←HZ2.out];exact Qr);have HRQ10:=ah (HRQ9.out.grown hg10 (lJ (by omega)));have HYC10:=ah (HYC9.out.grown hg10 (lJ (by omega)));have HB10:=ah (mM HB9.out hg10 (by omega) hsz10);clear Qr hg10 HRX9 HRQ9 HYC9 HB9 HZ1 HZ2 HZ3;go_wp2
      go_roundw
      case rel=>exact ⟨j,by omega,by go_num,HRX10.out,HRQ10.out,HYC10.out,HB10.out⟩
      case measure=>simp [intOf]
     ·rw [FI (by omega)];obtain ⟨z1,z2⟩:=long_no (n:=Ly+1) HB0.out hq1 (by omega);have HRX9:=ah (show Row w.heap.size w8 g T c (bI (kR (f*a) (f*b) j) T) by rw [←z2];exact Kv);have HRQ9:=ah (show Row w.heap.size w8 gq K K (dw 0 (f*a / (f*b)) j K) by rw [←rV hjK,←z1];exact RP.out);clear z1 z2 hov Kv hg8 HRX7 G6 RH Ov hcq7 hfq7 RP hcq8 hfq8;go_wp2
      go_roundw
      case rel=>exact ⟨j,by omega,by go_num,HRX9.out,HRQ9.out,HYC8.out,K6.out⟩
      case measure=>simp [intOf]
theorem nG (B a b:Nat) (v u:Value) (w:World) (hB:B≤w.heap.size) (fa:Fit a) (hb:0<b) (hv:gP B w v a) (hu:gP B w u b):Calls Tryz.prog 101 #[v,u] w (DivP (a / b) (a % b) w):=by
 obtain ⟨L,hL⟩:=DX b;by_cases hlt:a<b
 ·exact Rj B a b v u w hB hlt hv hu
 ·have h0:L≠0:=fun h=>by have:=(eu hL).2 h;omega
  by_cases h1:L=1
  ·subst h1;exact div_one B a b v u w hB fa (by omega) hL hv hu
  ·exact Ri B a b (L-2) L v u w hB fa (by omega) (by omega) hL hv hu
#print axioms nG
end Go.Proofs.YtopmdeefcjdadaaGreat
