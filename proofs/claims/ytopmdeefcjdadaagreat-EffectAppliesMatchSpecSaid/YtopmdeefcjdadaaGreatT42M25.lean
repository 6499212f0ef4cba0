import Derived.Test.YtopmdeefcjdadaaGreatT42M00
import Derived.Test.YtopmdeefcjdadaaGreatT42M24
import Derived.Test.YtopmdeefcjdadaaGreatT42M16
import Derived.Test.YtopmdeefcjdadaaGreatT42M01
import Derived.Test.YtopmdeefcjdadaaGreatT42M17
import Derived.Test.YtopmdeefcjdadaaGreatT42M10
set_option linter.unusedVariables false
set_option linter.unusedSimpArgs false
set_option maxRecDepth 100000
set_option maxHeartbeats 32000000
namespace Go.Proofs.YtopmdeefcjdadaaGreat
open Go.RowKit
theorem yM {q P:Int} {g D:Nat} (hg:0<g) (hD:0<D) (he:q*(D:Int)=P*(g:Int)):qp q=qp P:=by
 have hD':(0:Int)<(D:Int):=by omega
 have hg':(0:Int)<(g:Int):=by omega
 unfold qp;rcases Int.lt_trichotomy q 0 with c | c | c
 ·have h1:q*(D:Int)<0:=Int.mul_neg_of_neg_of_pos c hD'
  have h2:P<0:=by
   rcases Int.lt_or_le P 0 with k | k
   ·exact k
   ·have:=Int.mul_nonneg k (Int.le_of_lt hg');omega
  rw [if_neg (by omega),if_pos c,if_neg (by omega),if_pos h2]
 ·subst c
  have h2:P=0:=by
   rw [Int.zero_mul] at he;rcases Int.mul_eq_zero.1 he.symm with k | k
   ·exact k
   ·omega
  rw [if_pos rfl,if_pos h2]
 ·have h1:0<q*(D:Int):=Int.mul_pos c hD'
  have h2:0<P:=by
   rcases Int.lt_or_le 0 P with k | k
   ·exact k
   ·have h3:P*(g:Int)≤0:=by
     have:=Int.mul_le_mul_of_nonneg_right k (Int.le_of_lt hg');rwa [Int.zero_mul] at this
    omega
  rw [if_neg (by omega),if_neg (by omega),if_neg (by omega),if_neg (by omega)]
theorem orderR (B da db:Nat) (pa pb:Int) (v u:Value) (w:World) (hB:B≤w.heap.size) (h1:Fit pa.natAbs) (h2:Fit da) (h3:Fit pb.natAbs) (h4:Fit db) (h5:Fit (pa.natAbs*db+pb.natAbs*da)) (h6:Fit (da*db)) (h7:0<da*db) (hv:sM B w v pa da) (hu:sM B w u pb db) :
  Calls Tryz.prog 86 #[v,u] w fun e w'=>e=.returned (.int .i64 (qp (pa*(db:Int)-pb*(da:Int))))∧Below w.heap.size w w':=by
 have HV:=ah hv;have HU:=ah hu;obtain ⟨s,ao,L,cap,bo,M,cap2,rfl⟩:=lu hv;obtain ⟨t,co,L2,nI,dd,M2,cap4,rfl⟩:=lu hu;have HM:=ah (fun (W:World) (hW:Below w.heap.size w W)=>PZ B da db pa pb _ _ W (Nat.le_trans hB hW.size) h1 h2 h3 h4 h5 h6 h7 (hv.below (hW.mono hB)) (hu.below (hW.mono hB)));have H7:=ah h7;clear hv hu h1 h2 h3 h4 h5 h6 h7;generalize pa*(db:Int)-pb*(da:Int)=PP at *;generalize da*db=DD at *;go_enter Tryz.func86,Tryz.ntmps86;go_wp2_with fail;refine (HM.out _ (((Below.refl _ _).alloc (Nat.le_refl _) _).alloc (by simp) _)).mono ?_;rintro e w1 ⟨v1,p,dd1,rfl,hq,m1,m2,m3,m4,hb⟩;have HO:=ah (show qp p=qp PP from yM m3 H7.out m1);obtain ⟨hbw,hsz⟩:=Lj hb;obtain ⟨s1,ao1,N1,c1,bo1,N2,c2,rfl⟩:=lu hq;have HQ:=ah hq;have bA:=ah hbw;clear hq hb hbw HM m1 m2 m3 m4 H7;go_wp2_with fail;refine (zeroQ _ _ p _ _ (HQ.out.below ((Below.refl _ _).alloc (Nat.le_refl _) _))).mono ?_;rintro e w2 ⟨rfl,hb2⟩;have hc:=((jN w1 _ _ _ _).below hb2 (by simp)).c0;have HB2:=ah (bA.out.trans (((Below.refl w.heap.size w1).alloc (by omega) _).trans (hb2.mono (by simp<;>omega))));clear hb2;by_cases h0:p=0
 ·rw [H6 h0];have HE:=ah (show qp p=0 from if_pos h0);clear h0 hc;go_wp2
  go_ret;exact ⟨by rw [←HO.out,HE.out];rfl,HB2.out⟩
 ·rw [Ox h0];have HE:=ah (show qp p=if p<0 then -1 else 1 from if_neg h0);rcases Qe HQ.out h0 with ⟨rfl,hp⟩ | ⟨rfl,hp⟩
  ·have HE2:=ah (HE.out.trans (if_pos hp));clear h0 hp HE;go_wp2
   go_ret;exact ⟨by rw [←HO.out,HE2.out];rfl,HB2.out⟩
  ·have HE2:=ah (HE.out.trans (if_neg (by omega)));clear h0 hp HE;go_wp2
   go_ret;exact ⟨by rw [←HO.out,HE2.out];rfl,HB2.out⟩
def bM (B:Nat) (w:World) (v:Value) (P:Int) (D m n:Nat):Prop:=∃p d,sM B w v p d∧p*(D:Int)=P*(d:Int)∧0<d∧d≤D∧P.natAbs≤10 ^ m∧D≤10 ^ n
def uS (P:Int) (D m n:Nat) (w:World) (e:Ending) (w':World):Prop:=∃v,e=.returned v∧bM w'.heap.size w' v P D m n∧Below w.heap.size w w'
theorem bM.below {B D m n:Nat} {P:Int} {w w':World} {v:Value} (h:bM B w v P D m n) (hb:Below B w w'):bM B w' v P D m n:=by
 obtain ⟨p,d,h1,h2⟩:=h;exact ⟨p,d,h1.below hb,h2⟩
theorem bM.more {B B' D m n:Nat} {P:Int} {w:World} {v:Value} (h:bM B w v P D m n) (hB:B≤B'):bM B' w v P D m n:=by
 obtain ⟨p,d,h1,h2⟩:=h;exact ⟨p,d,h1.more hB,h2⟩
theorem bM.up {D m n:Nat} {P:Int} {w w':World} {v:Value} (h:bM w.heap.size w v P D m n) (hb:Below w.heap.size w w'):bM w'.heap.size w' v P D m n:=(h.below hb).more hb.size
theorem fB {B D m n:Nat} {P:Int} {w:World} {v:Value} (h:bM B w v P D m n):∃s ao L cap bo M cap2,v=.agg #[.bool s,.slice ao L cap,.slice bo M cap2]:=by
 obtain ⟨p,d,h1,h2⟩:=h;exact lu h1
theorem bM.of {B D m n:Nat} {P:Int} {w:World} {v:Value} (h:sM B w v P D) (hD:0<D) (h1:P.natAbs≤10 ^ m) (h2:D≤10 ^ n):bM B w v P D m n:=⟨P,D,h,rfl,hD,Nat.le_refl _,h1,h2⟩
theorem mD {p P:Int} {d D:Nat} (hD:0<D) (h:p*(D:Int)=P*(d:Int)) (hd:d≤D):p.natAbs≤P.natAbs:=by
 have e:=congrArg Int.natAbs h;rw [Int.natAbs_mul,Int.natAbs_mul,Int.natAbs_natCast,Int.natAbs_natCast] at e;have h1:P.natAbs*d≤P.natAbs*D:=Nat.mul_le_mul_left _ hd;exact Nat.le_of_mul_le_mul_right (by omega) hD
theorem BB_ten:BB ^ 20=10 ^ 180:=by decide +kernel
theorem cK {x m:Nat} (h:x≤10 ^ m) (hm:m≤179):Fit x:=by
 show x<BB ^ 20;rw [BB_ten];exact Nat.lt_of_le_of_lt h (Nat.pow_lt_pow_right (by omega) (by omega))
theorem iC {a b m n:Nat} (h1:a≤10 ^ m) (h2:b≤10 ^ n):a*b≤10 ^ (m+n):=by
 rw [Nat.pow_add];exact Nat.mul_le_mul h1 h2
theorem Dn {a m n:Nat} (h:a≤10 ^ m) (hm:m≤n):a≤10 ^ n:=Nat.le_trans h (Nat.pow_le_pow_right (by omega) hm)
theorem Kg {a b m1 m2 m:Nat} (h1:a≤10 ^ m1) (h2:b≤10 ^ m2) (k1:m1<m) (k2:m2<m):a+b≤10 ^ m:=by
 obtain ⟨q,rfl⟩:∃q,m=q+1:=⟨m-1,by omega⟩;have a1:=Dn h1 (show m1≤q by omega);have a2:=Dn h2 (show m2≤q by omega);rw [Nat.pow_succ];omega
theorem DT {P Q:Int} {D E m n:Nat} {w w':World} {e:Ending} (h:Es P D w e w') (hD:0<D) (hE:P*(E:Int)=Q*(D:Int)) (hl:D≤E) (h1:Q.natAbs≤10 ^ m) (h2:E≤10 ^ n):uS Q E m n w e w':=by
 obtain ⟨v,p,d,rfl,hq,e1,_,e3,e4,hb⟩:=h;refine ⟨v,rfl,⟨p,d,hq,?_,e3,Nat.le_trans e4 hl,h1,h2⟩,hb⟩;have hD':(D:Int)≠0:=by omega
 refine Int.eq_of_mul_eq_mul_right hD' ?_
 calc p*(E:Int)*(D:Int)=(p*(D:Int))*(E:Int):=by grind
  _=P*(d:Int)*(E:Int):=by rw [e1]
  _=(P*(E:Int))*(d:Int):=by grind
  _=(Q*(D:Int))*(d:Int):=by rw [hE]
  _=Q*(d:Int)*(D:Int):=by grind
theorem partS (a b m n:Nat) (w:World) (ha:a≤9223372036854775807) (hb:b≤9223372036854775807) (hb0:0<b) (h1:a≤10 ^ m) (h2:b≤10 ^ n):Calls Tryz.prog 54 #[.int .i64 a,.int .i64 b] w (uS a b m n w):=by
 refine (Fz a b w ha hb).mono ?_;rintro e w1 ⟨v,rfl,hq,_,hb⟩;exact ⟨v,rfl,bM.of hq hb0 (by simpa using h1) h2,hb⟩
theorem gZ (a:Int) (m:Nat) (w:World) (h0:-4611686018427387904≤a) (h1:a≤4611686018427387904) (h2:a.natAbs≤10 ^ m):Calls Tryz.prog 48 #[.int .i64 a] w (uS a 1 m 0 w):=by
 refine (K8 a w h0 h1).mono ?_;rintro e w1 ⟨v,rfl,hq,_,hb⟩;exact ⟨v,rfl,bM.of hq (by omega) h2 (by decide),hb⟩
theorem uy (B Da Db m1 n1 m2 n2:Nat) (Pa Pb:Int) (v u:Value) (w:World) (hB:B≤w.heap.size) (hm:m1+m2≤178) (hn:n1+n2≤178) (hv:bM B w v Pa Da m1 n1) (hu:bM B w u Pb Db m2 n2) :
  Calls Tryz.prog 51 #[v,u] w (uS (Pa*Pb) (Da*Db) (m1+m2) (n1+n2) w):=by
 obtain ⟨pa,da,q1,e1,g1,l1,a1,b1⟩:=hv;obtain ⟨pb,db,q2,e2,g2,l2,a2,b2⟩:=hu;have k1:=Nat.le_trans (mD (by omega) e1 l1) a1;have k2:=Nat.le_trans (mD (by omega) e2 l2) a2;have j1:=Nat.le_trans l1 b1;have j2:=Nat.le_trans l2 b2;refine (timesR B da db pa pb v u w hB (cK k1 (by omega)) (cK j1 (by omega)) (cK k2 (by omega)) (cK j2 (by omega)) (cK (iC k1 k2) (by omega)) (cK (iC j1 j2) (by omega)) (Nat.mul_pos g1 g2) q1 q2).mono ?_;intro e w1 h;refine DT h (Nat.mul_pos g1 g2) ?_ (Nat.mul_le_mul l1 l2) (by rw [Int.natAbs_mul];exact iC a1 a2) (iC b1 b2);push_cast
 calc pa*pb*((Da:Int)*(Db:Int))=(pa*(Da:Int))*(pb*(Db:Int)):=by grind
  _=(Pa*(da:Int))*(Pb*(db:Int)):=by rw [e1,e2]
  _=Pa*Pb*((da:Int)*(db:Int)):=by grind
theorem Fx {pa pb Pa Pb:Int} {da db Da Db:Nat} (e1:pa*(Da:Int)=Pa*(da:Int)) (e2:pb*(Db:Int)=Pb*(db:Int)):(pa*(db:Int)+pb*(da:Int))*((Da*Db:Nat):Int)=(Pa*(Db:Int)+Pb*(Da:Int))*((da*db:Nat):Int):=by
 push_cast
 calc (pa*(db:Int)+pb*(da:Int))*((Da:Int)*(Db:Int))=(pa*(Da:Int))*((db:Int)*(Db:Int))+(pb*(Db:Int))*((da:Int)*(Da:Int)):=by grind
  _=(Pa*(da:Int))*((db:Int)*(Db:Int))+(Pb*(db:Int))*((da:Int)*(Da:Int)):=by rw [e1,e2]
  _=(Pa*(Db:Int)+Pb*(Da:Int))*((da:Int)*(db:Int)):=by grind
theorem Ci {pa pb Pa Pb:Int} {da db Da Db:Nat} (e1:pa*(Da:Int)=Pa*(da:Int)) (e2:pb*(Db:Int)=Pb*(db:Int)):(pa*(db:Int)-pb*(da:Int))*((Da*Db:Nat):Int)=(Pa*(Db:Int)-Pb*(Da:Int))*((da*db:Nat):Int):=by
 have h:=Fx (pb:=-pb) (Pb:=-Pb) e1 (show -pb*(Db:Int)=-Pb*(db:Int) by rw [Int.neg_mul,Int.neg_mul,e2]);rw [Int.neg_mul,Int.neg_mul,←Int.sub_eq_add_neg,←Int.sub_eq_add_neg] at h;exact h
theorem vQ {a b:Int} {c d m1 n1 m2 n2 m:Nat} (h1:a.natAbs≤10 ^ m1) (h2:b.natAbs≤10 ^ m2) (h3:c≤10 ^ n1) (h4:d≤10 ^ n2) (k1:m1+n2<m) (k2:m2+n1<m):a.natAbs*d+b.natAbs*c≤10 ^ m:=Kg (iC h1 h4) (iC h2 h3) k1 k2
theorem GI (a b:Int) (c d:Nat):(a*(d:Int)+b*(c:Int)).natAbs≤a.natAbs*d+b.natAbs*c:=by
 have h:=Int.natAbs_add_le (a*(d:Int)) (b*(c:Int));rwa [Int.natAbs_mul,Int.natAbs_mul,Int.natAbs_natCast,Int.natAbs_natCast] at h
theorem NP (a b:Int) (c d:Nat):(a*(d:Int)-b*(c:Int)).natAbs≤a.natAbs*d+b.natAbs*c:=by
 have h:=GI a (-b) c d;rwa [Int.neg_mul,←Int.sub_eq_add_neg,Int.natAbs_neg] at h
theorem BR (B Da Db m1 n1 m2 n2 m:Nat) (Pa Pb:Int) (v u:Value) (w:World) (hB:B≤w.heap.size) (h1:m1+n2<m) (h2:m2+n1<m) (hm:m≤178) (hn:n1+n2≤178) (hv:bM B w v Pa Da m1 n1) (hu:bM B w u Pb Db m2 n2) :
  Calls Tryz.prog 50 #[v,u] w (uS (Pa*(Db:Int)+Pb*(Da:Int)) (Da*Db) m (n1+n2) w):=by
 obtain ⟨pa,da,q1,e1,g1,l1,a1,b1⟩:=hv;obtain ⟨pb,db,q2,e2,g2,l2,a2,b2⟩:=hu;have k1:=Nat.le_trans (mD (by omega) e1 l1) a1;have k2:=Nat.le_trans (mD (by omega) e2 l2) a2;have j1:=Nat.le_trans l1 b1;have j2:=Nat.le_trans l2 b2;refine (plusR B da db pa pb v u w hB (cK k1 (by omega)) (cK j1 (by omega)) (cK k2 (by omega)) (cK j2 (by omega)) (cK (vQ k1 k2 j1 j2 h1 h2) (by omega)) (cK (iC j1 j2) (by omega)) (Nat.mul_pos g1 g2) q1 q2).mono ?_;intro e w1 h;exact DT h (Nat.mul_pos g1 g2) (Fx e1 e2) (Nat.mul_le_mul l1 l2) (Nat.le_trans (GI _ _ _ _) (vQ a1 a2 b1 b2 h1 h2)) (iC b1 b2)
theorem qA (B Da Db m1 n1 m2 n2 m:Nat) (Pa Pb:Int) (v u:Value) (w:World) (hB:B≤w.heap.size) (h1:m1+n2<m) (h2:m2+n1<m) (hm:m≤178) (hn:n1+n2≤178) (hv:bM B w v Pa Da m1 n1) (hu:bM B w u Pb Db m2 n2) :
  Calls Tryz.prog 53 #[v,u] w (uS (Pa*(Db:Int)-Pb*(Da:Int)) (Da*Db) m (n1+n2) w):=by
 obtain ⟨pa,da,q1,e1,g1,l1,a1,b1⟩:=hv;obtain ⟨pb,db,q2,e2,g2,l2,a2,b2⟩:=hu;have k1:=Nat.le_trans (mD (by omega) e1 l1) a1;have k2:=Nat.le_trans (mD (by omega) e2 l2) a2;have j1:=Nat.le_trans l1 b1;have j2:=Nat.le_trans l2 b2;refine (PZ B da db pa pb v u w hB (cK k1 (by omega)) (cK j1 (by omega)) (cK k2 (by omega)) (cK j2 (by omega)) (cK (vQ k1 k2 j1 j2 h1 h2) (by omega)) (cK (iC j1 j2) (by omega)) (Nat.mul_pos g1 g2) q1 q2).mono ?_;intro e w1 h;exact DT h (Nat.mul_pos g1 g2) (Ci e1 e2) (Nat.mul_le_mul l1 l2) (Nat.le_trans (NP _ _ _ _) (vQ a1 a2 b1 b2 h1 h2)) (iC b1 b2)
theorem IQ (B Da Db m1 n1 m2 n2 m:Nat) (Pa Pb:Int) (v u:Value) (w:World) (hB:B≤w.heap.size) (h1:m1+n2<m) (h2:m2+n1<m) (hm:m≤178) (hn:n1+n2≤178) (hv:bM B w v Pa Da m1 n1) (hu:bM B w u Pb Db m2 n2) :
  Calls Tryz.prog 86 #[v,u] w fun e w'=>e=.returned (.int .i64 (qp (Pa*(Db:Int)-Pb*(Da:Int))))∧Below w.heap.size w w':=by
 obtain ⟨pa,da,q1,e1,g1,l1,a1,b1⟩:=hv;obtain ⟨pb,db,q2,e2,g2,l2,a2,b2⟩:=hu;have k1:=Nat.le_trans (mD (by omega) e1 l1) a1;have k2:=Nat.le_trans (mD (by omega) e2 l2) a2;have j1:=Nat.le_trans l1 b1;have j2:=Nat.le_trans l2 b2;rw [←yM (Nat.mul_pos g1 g2) (Nat.mul_pos (Nat.lt_of_lt_of_le g1 l1) (Nat.lt_of_lt_of_le g2 l2)) (Ci e1 e2)];exact orderR B da db pa pb v u w hB (cK k1 (by omega)) (cK j1 (by omega)) (cK k2 (by omega)) (cK j2 (by omega)) (cK (vQ k1 k2 j1 j2 h1 h2) (by omega)) (cK (iC j1 j2) (by omega)) (Nat.mul_pos g1 g2) q1 q2
theorem overR (B da db:Nat) (pa:Int) (nb:Nat) (v u:Value) (w:World) (hB:B≤w.heap.size) (h1:Fit pa.natAbs) (h2:Fit da) (h3:Fit nb) (h4:Fit db) (h5:Fit (pa.natAbs*db)) (h6:Fit (da*nb)) (h7:0<da*nb) (hv:sM B w v pa da) (hu:sM B w u nb db) :
  Calls Tryz.prog 83 #[v,u] w (Es (pa*(db:Int)) (da*nb) w):=by
 obtain ⟨s,x,y,rfl,na,k1,k2,rfl⟩:=hv;obtain ⟨t,z,u,rfl,nc,k3,k4,hnc⟩:=hu
 have hp:0<nb:=by
  rcases Nat.eq_zero_or_pos nb with h | h
  ·subst h;simp at h7
  ·exact h
 have ht:t=false:=by
  cases t
  ·rfl
  ·simp only [sg] at hnc;omega
 subst ht;have hnb:nc=nb:=by simp only [sg] at hnc;omega
 subst hnb;rw [fu] at h1;rw [fu] at h5;rw [zo];have:=IL B na nc da db s false x y z u w hB h1 h2 h3 h4 h5 h6 h7 k1 k2 k3 k4;rwa [Bool.bne_false] at this
theorem overS (B Da Db m1 n1 m2 n2:Nat) (Pa:Int) (Pb:Nat) (v u:Value) (w:World) (hB:B≤w.heap.size) (hm:m1+n2≤178) (hn:n1+m2≤178) (hm2:m2≤178) (hm1:m1≤178) (hn1:n1≤178) (hn2:n2≤178) (hp:0<Pb) (hv:bM B w v Pa Da m1 n1) (hu:bM B w u Pb Db m2 n2) :
  Calls Tryz.prog 83 #[v,u] w (uS (Pa*(Db:Int)) (Da*Pb) (m1+n2) (n1+m2) w):=by
 obtain ⟨pa,da,q1,e1,g1,l1,a1,b1⟩:=hv;obtain ⟨pb,db,q2,e2,g2,l2,a2,b2⟩:=hu;have hD:0<Db:=Nat.lt_of_lt_of_le g2 l2;have k1:=Nat.le_trans (mD (by omega) e1 l1) a1;have i2:=mD hD e2 l2;have k2:=Nat.le_trans i2 a2;have j1:=Nat.le_trans l1 b1;have j2:=Nat.le_trans l2 b2
 have hpb:0<pb:=by
  have h:0<pb*(Db:Int):=by rw [e2];exact Int.mul_pos (by omega) (by omega)
  rcases Int.lt_or_le 0 pb with c | c
  ·exact c
  ·have:=Int.mul_le_mul_of_nonneg_right c (Int.le_of_lt (show (0:Int)<(Db:Int) by omega));rw [Int.zero_mul] at this;omega
 obtain ⟨nb,rfl⟩:∃nb:Nat,pb=(nb:Int):=⟨pb.toNat,by omega⟩;simp only [Int.natAbs_natCast] at i2 k2 a2;have hnb:0<nb:=by omega
 refine (overR B da db pa nb v u w hB (cK k1 (by omega)) (cK j1 (by omega)) (cK k2 (by omega)) (cK j2 (by omega)) (cK (iC k1 j2) (by omega)) (cK (iC j1 k2) (by omega)) (Nat.mul_pos g1 hnb) q1 q2).mono ?_;intro e w1 h;refine DT h (Nat.mul_pos g1 hnb) ?_ (Nat.mul_le_mul l1 i2) (by rw [Int.natAbs_mul,Int.natAbs_natCast];exact iC a1 b2) (iC b1 a2);push_cast
 calc pa*(db:Int)*((Da:Int)*(Pb:Int))=(pa*(Da:Int))*((Pb:Int)*(db:Int)):=by grind
  _=(Pa*(da:Int))*((nb:Int)*(Db:Int)):=by rw [e1,←e2]
  _=Pa*(Db:Int)*((da:Int)*(nb:Int)):=by grind
theorem zB_eq {q P:Int} {g D:Nat} (hg:0<g) (hD:0<D) (he:q*(D:Int)=P*(g:Int)):zB q=zB P:=by
 have h:=yM hg hD he;unfold qp at h;unfold zB;by_cases c:q=0<;>by_cases d:P=0<;>simp [c,d] at h ⊢
 ·split at h<;>simp at h
 ·split at h<;>simp at h
theorem zeroS (B D m n:Nat) (P:Int) (v:Value) (w:World) (h:bM B w v P D m n):Calls Tryz.prog 85 #[v] w fun e w'=>e=.returned (.bool (zB P))∧Below w.heap.size w w':=by
 obtain ⟨p,d,q1,e1,g1,l1,a1,b1⟩:=h;rw [←zB_eq g1 (Nat.lt_of_lt_of_le g1 l1) e1];exact zeroQ B d p v w q1
theorem floorS (B D m n:Nat) (P:Int) (v:Value) (w:World) (hB:B≤w.heap.size) (hm:m≤178) (hr:P.natAbs / D≤4611686018427387904) (hv:bM B w v P D m n) :
  Calls Tryz.prog 84 #[v] w fun e w'=>e=.returned (.int .i64 (P / (D:Int)))∧Below w.heap.size w w':=by
 obtain ⟨p,d,q1,e1,g1,l1,a1,b1⟩:=hv;have k1:=Nat.le_trans (mD (by omega) e1 l1) a1;have hD:0<D:=Nat.lt_of_lt_of_le g1 l1;rw [←yQ g1 hD e1];exact QV B d p v w hB (cK k1 (by omega)) g1 (by rw [oC g1 hD e1];exact hr) q1
theorem roundS (B D m n:Nat) (P:Int) (v:Value) (w:World) (hB:B≤w.heap.size) (hm:m≤175) (hn:n≤175) (hr:(P*2+D).natAbs / (D*2)≤4611686018427387904) (hv:bM B w v P D m n) :
  Calls Tryz.prog 55 #[v] w fun e w'=>e=.returned (.int .i64 (AY P D))∧Below w.heap.size w w':=by
 obtain ⟨p,d,q1,e1,g1,l1,a1,b1⟩:=hv;have k1:=Nat.le_trans (mD (by omega) e1 l1) a1;have hD:0<D:=Nat.lt_of_lt_of_le g1 l1
 have e2:(p*2+(d:Int))*((D*2:Nat):Int)=(P*2+(D:Int))*((d*2:Nat):Int):=by
  push_cast;have:(p*2+(d:Int))*((D:Int)*2)=4*(p*(D:Int))+2*((d:Int)*(D:Int)):=by grind
  rw [this,e1];grind
 have c1:p.natAbs*2≤10 ^ (m+1):=by rw [Nat.pow_succ];omega
 have c2:d*2≤10 ^ (n+1):=by rw [Nat.pow_succ];omega
 rw [←rndQ_eq g1 hD e1];exact roundR B d p v w hB (cK (Kg (m:=179) c1 (Nat.le_trans l1 b1) (by omega) (by omega)) (by omega)) (cK c2 (by omega)) g1 (by rw [oC (by omega) (by omega) e2];exact hr) q1
theorem belowF (B D m n:Nat) (P:Int) (v:Value) (w:World) (h:bM B w v P D m n):Calls Tryz.prog 103 #[v] w fun e w'=>e=.returned (.bool (decide (P<0)))∧Below w.heap.size w w':=by
 obtain ⟨p,d,⟨s,x,y,rfl,k,h1,h2,rfl⟩,e1,g1,l1,_,_⟩:=h;have hD:0<D:=Nat.lt_of_lt_of_le g1 l1
 have hP:(P<0)↔(sg s k<0):=by
  have ho:=yM g1 hD e1;unfold qp at ho;by_cases c:sg s k=0
  ·rw [if_pos c] at ho;by_cases c2:P=0
   ·omega
   ·rw [if_neg c2] at ho;split at ho<;>omega
  ·rw [if_neg c] at ho;by_cases c2:P=0
   ·rw [if_pos c2] at ho;split at ho<;>omega
   ·rw [if_neg c2] at ho;split at ho<;>split at ho<;>omega
 obtain ⟨ao,L,cap,rfl,hl⟩:=bC h1;obtain ⟨bo,M,cap2,rfl,hm⟩:=bC h2;have hz:=eu hl
 have HE:Hid (decide (P<0)=(s&&decide (0<L))):=ah (by
  have hk:0<L↔0<k:=by omega
  by_cases c:0<k
  ·cases s
   ·have:¬P<0:=by rw [hP];simp only [sg];omega
    simp [this]
   ·have:P<0:=by rw [hP];simp only [sg];omega
    simp [this];omega
  ·have:¬P<0:=by rw [hP];cases s<;>simp only [sg]<;>omega
   have h0:¬0<L:=by omega
   simp [this,h0])
 rw [HE.out];clear h1 h2 hl hm hP hz HE e1;cases s
 ·go_enter Tryz.func103,Tryz.ntmps103;go_wp2
  go_ret;exact ⟨by simp,by go_grown⟩
 ·by_cases h0:L=0
  ·subst h0;go_enter Tryz.func103,Tryz.ntmps103;go_wp2
   go_ret;exact ⟨by simp,by go_grown⟩
  ·have hd:(0:Int)<(L:Int):=by omega
   go_enter Tryz.func103,Tryz.ntmps103;go_wp2
   go_ret;exact ⟨by simp<;>omega,by go_grown⟩
def gY (w:World) (g:Nat) (P:Int) (D m n:Nat):Prop:=∃s ao L cap bo M cap2,aH w g 99 #[.bool s,.slice ao L cap,.slice bo M cap2]∧bM w.heap.size w (.agg #[.bool s,.slice ao L cap,.slice bo M cap2]) P D m n
def AnyQ (w:World) (g:Nat):Prop:=∃s ao L cap bo M cap2,aH w g 99 #[.bool s,.slice ao L cap,.slice bo M cap2]
def Stq (w:World) (g:Nat) (w':World):Prop:=w.grownBy w' (some g)∧(∀B v P D m n,bM B w v P D m n→bM B w' v P D m n)∧w'.heap.size=w.heap.size
section
variable {w w':World} {g b D m n:Nat} {P:Int}
theorem gY.below (h:gY w g P D m n) (hb:Below w.heap.size w w'):gY w' g P D m n:=by
 obtain ⟨s,ao,L,cap,bo,M,cap2,h1,h2⟩:=h;exact ⟨s,ao,L,cap,bo,M,cap2,h1.below hb,h2.up hb⟩
theorem gY.any (h:gY w g P D m n):AnyQ w g:=by
 obtain ⟨s,ao,L,cap,bo,M,cap2,h1,h2⟩:=h;exact ⟨s,ao,L,cap,bo,M,cap2,h1⟩
theorem AnyQ.lt (h:AnyQ w g):g<w.heap.size:=by
 obtain ⟨s,ao,L,cap,bo,M,cap2,h1⟩:=h;exact h1.lt
theorem AnyQ.below (h:AnyQ w g) (hb:Below w.heap.size w w'):AnyQ w' g:=by
 obtain ⟨s,ao,L,cap,bo,M,cap2,h1⟩:=h;exact ⟨s,ao,L,cap,bo,M,cap2,h1.below hb⟩
theorem bM.dS {B g:Nat} {u0 u1 u2 v:Value} {s:Bool} {ao bo:Option Addr} {i j k l:Nat} (h:bM B w v P D m n) (hb:oJ w g (.bool s) (.slice ao i j) (.slice bo k l)):bM B (((w.setCell ⟨g,0,none⟩ u0).setCell ⟨g,1,none⟩ u1).setCell ⟨g,2,none⟩ u2) v P D m n:=by
 obtain ⟨p,d,h1,h2⟩:=h;exact ⟨p,d,h1.dS hb,h2⟩
theorem box3_of {g:Nat} {c0 c1 c2:Value} {T:TypeId} (h:aH w g T #[c0,c1,c2]):oJ w g c0 c1 c2:=
 ⟨h.cell (i:=0) rfl,h.cell (i:=1) rfl,h.cell (i:=2) rfl,h.frozen 0,h.frozen 1,h.frozen 2⟩
theorem uD {g:Nat} (h:AnyQ w g) (u0 u1 u2:Value):Stq w g (((w.setCell ⟨g,0,none⟩ u0).setCell ⟨g,1,none⟩ u1).setCell ⟨g,2,none⟩ u2):=by
 obtain ⟨s,ao,L,cap,bo,M,cap2,h1⟩:=h;exact ⟨iw (iw (lF w g 0 _) (lF _ g 1 _)) (lF _ g 2 _),fun B v P D m n hr=>hr.dS (box3_of h1),by simp⟩
theorem gY.wM (h:gY w b P D m n) (hs:Stq w g w') (hne:b≠g):gY w' b P D m n:=by
 obtain ⟨s,ao,L,cap,bo,M,cap2,h1,h2⟩:=h;exact ⟨s,ao,L,cap,bo,M,cap2,h1.fE hs.1 hne,by rw [hs.2.2];exact hs.2.1 _ _ _ _ _ _ h2⟩
theorem AnyQ.wM (h:AnyQ w b) (hs:Stq w g w') (hne:b≠g):AnyQ w' b:=by
 obtain ⟨s,ao,L,cap,bo,M,cap2,h1⟩:=h;exact ⟨s,ao,L,cap,bo,M,cap2,h1.fE hs.1 hne⟩
theorem EU {g:Nat} {c0 c1 c2:Value} {T:TypeId} (h:aH w g T #[c0,c1,c2]) (u0 u1 u2:Value):aH (((w.setCell ⟨g,0,none⟩ u0).setCell ⟨g,1,none⟩ u1).setCell ⟨g,2,none⟩ u2) g T #[u0,u1,u2]:=by
 have:=((h.set 0 u0).set 1 u1).set 2 u2;simpa using this
theorem je {g:Nat} (h:AnyQ w g) {s:Bool} {ao bo:Option Addr} {L cap M cap2:Nat} (hr:bM w.heap.size w (.agg #[.bool s,.slice ao L cap,.slice bo M cap2]) P D m n) :
  gY (((w.setCell ⟨g,0,none⟩ (.bool s)).setCell ⟨g,1,none⟩ (.slice ao L cap)).setCell ⟨g,2,none⟩ (.slice bo M cap2)) g P D m n:=by
 have hs:=uD h (.bool s) (.slice ao L cap) (.slice bo M cap2);refine ⟨s,ao,L,cap,bo,M,cap2,?_,by rw [hs.2.2];exact hs.2.1 _ _ _ _ _ _ hr⟩;obtain ⟨_,_,_,_,_,_,_,h1⟩:=h;exact EU h1 _ _ _
end
theorem jo (w:World):(zeroValue 99).run Tryz.prog w=.ok (.agg #[.bool false,.slice none 0 0,.slice none 0 0]) w:=by kernel_rfl
theorem bX (w:World) {ops:Array Oper} {rest:List Oper} {o:Oper} {a:Act} {Q:Exit→Act→World→Prop} {v:Value} {P:Int} {D m n:Nat}
  (hg:o.guard=none) (p x:Operand) (hop:o.op=Op.store 99 p x) (b:Nat) (hp:a.eval p=.pointer (some ⟨b,0,none⟩)) (hx:a.eval x=v) (hv:bM w.heap.size w v P D m n) (hb:AnyQ w b)
  (hK:∀w',gY w' b P D m n→Stq w b w'→wpList Tryz.prog ops Q rest (a.put o.dst undef) w'):wpList Tryz.prog ops Q (o::rest) a w:=by
 refine wpList_plain hg fun K hK'=>?_;obtain ⟨s,ao,L,cap,bo,M,cap2,rfl⟩:=fB hv;have hQ:=je hb hv;have hS:=uD hb (.bool s) (.slice ao L cap) (.slice bo M cap2);obtain ⟨w1,hw1⟩:∃w1:World,w1=(((w.setCell ⟨b,0,none⟩ (.bool s)).setCell ⟨b,1,none⟩ (.slice ao L cap)).setCell ⟨b,2,none⟩ (.slice bo M cap2)):=⟨_,rfl⟩;rw [←hw1] at hQ hS;have h:=hK' _ _ (hK w1 hQ hS);rw [hw1] at h;obtain ⟨s',ao',L',cap',bo',M',cap2',hb⟩:=hb;have y0:=hb.cell (i:=0) rfl;have z0:=hb.frozen 0;have y1:=hb.cell (i:=1) rfl;have z1:=hb.frozen 1;have y2:=hb.cell (i:=2) rfl;have z2:=hb.frozen 2;clear hK hK' hQ hS hw1 hb hv;unfold Oper.wp;simp only [execOp,hop,hp,hx];go_simp;exact h
theorem eX {P P':Int} {D D' m n:Nat} {w w':World} {e:Ending} (h:uS P D m n w e w') (hP:P=P') (hD:D=D'):uS P' D' m n w e w':=by
 subst hP hD;exact h
theorem zU {P P':Int} {D D' m n m' n':Nat} {w w':World} {e:Ending} (h:uS P D m n w e w') (hP:P=P') (hD:D=D') (h1:P'.natAbs≤10 ^ m') (h2:D'≤10 ^ n'):uS P' D' m' n' w e w':=by
 subst hP hD;obtain ⟨v,e1,⟨p,d,q1,q2,q3,q4,_,_⟩,hb⟩:=h;exact ⟨v,e1,⟨p,d,q1,q2,q3,q4,h1,h2⟩,hb⟩
theorem BZ (a b:Int) (m n:Nat) (w:World) (ha0:0≤a) (ha:a≤9223372036854775807) (hb:b≤9223372036854775807) (hb0:0<b) (h1:a≤10 ^ m) (h2:b≤10 ^ n):Calls Tryz.prog 54 #[.int .i64 a,.int .i64 b] w (uS a b.toNat m n w):=by
 obtain ⟨a,rfl⟩:∃k:Nat,a=(k:Int):=⟨a.toNat,by omega⟩;obtain ⟨b,rfl⟩:∃k:Nat,b=(k:Int):=⟨b.toNat,by omega⟩;refine partS a b m n w (by omega) (by omega) (by omega) ?_ ?_
 ·have:(a:Int)≤((10 ^ m:Nat):Int):=by simpa using h1
  omega
 ·have:(b:Int)≤((10 ^ n:Nat):Int):=by simpa using h2
  omega
theorem Kn (B Da Db m1 n1 m2 n2:Nat) (Pa Pb:Int) (v u:Value) (w:World) (hB:B≤w.heap.size) (hm:m1+n2≤178) (hn:n1+m2≤178) (hm2:m2≤178) (hm1:m1≤178) (hn1:n1≤178) (hn2:n2≤178) (hp:0<Pb) (hv:bM B w v Pa Da m1 n1) (hu:bM B w u Pb Db m2 n2) :
  Calls Tryz.prog 83 #[v,u] w (uS (Pa*(Db:Int)) (Da*Pb.toNat) (m1+n2) (n1+m2) w):=by
 obtain ⟨b,rfl⟩:∃k:Nat,Pb=(k:Int):=⟨Pb.toNat,by omega⟩;exact overS B Da Db m1 n1 m2 n2 Pa b v u w hB hm hn hm2 hm1 hn1 hn2 (by omega) hv hu
theorem Mh (aK low aD aA ay ak:Int) (aI rel:Bool) (ao:Option Addr) (cap n:Nat) (w:World) (h7:¬aK=7) :
  Calls Tryz.prog 59 #[.agg #[.int .i64 aK,.int .i64 low,.int .i64 aD,.int .i64 aA,.int .i64 ay,.int .i64 ak,.bool aI,.bool rel,.slice ao n cap]] w fun e w'=>e=.returned (.int .i64 aA)∧Below w.heap.size w w':=by
 have HB:=ah ((Below.refl w.heap.size w).alloc (Nat.le_refl _) (.cells #[.int .i64 aK,.int .i64 low,.int .i64 aD,.int .i64 aA,.int .i64 ay,.int .i64 ak,.bool aI,.bool rel,.slice ao n cap] 28));go_enter Tryz.func59,Tryz.ntmps59;go_wp2_with fail;go_ret;exact ⟨rfl,HB.out⟩
theorem zH (aK low aD aA ay ak c:Int) (aI rel:Bool) (ao:Option Addr) (cap:Nat) (l:List Stp) (w:World) (hs:eH w.heap.size w ao l) (hl:l.length≤50) (hall:l.all fV=true) (hc:0≤aA∧aA≤3600000) (h6:aK≠7→l.length=0) (h7:aK=7→aA=0) (hcc:aA+dh l=c) :
  Calls Tryz.prog 59 #[.agg #[.int .i64 aK,.int .i64 low,.int .i64 aD,.int .i64 aA,.int .i64 ay,.int .i64 ak,.bool aI,.bool rel,.slice ao l.length cap]] w fun e w'=>e=.returned (.int .i64 c)∧Below w.heap.size w w':=by
 by_cases h:aK=7
 ·have:=zG aK low aD aA ay ak aI rel ao cap l w h hs hl hall hc;rw [show c=dh l by have:=h7 h;omega];exact this
 ·have hl0:l=[]:=List.length_eq_zero_iff.1 (h6 h);subst hl0;rw [show c=aA by rw [←hcc];simp [dh]];exact Mh aK low aD aA ay ak aI rel ao cap _ w h
theorem Fj (i k:Int) (w:World):Calls Tryz.prog 87 #[.int .i64 i,.int .i64 k] w (uS (oL i k) 65536 5 5 w):=by
 have HC:=ah (KH i k);have HM:=ah (fun a:Int=>Int.mul_comm a 13787848793156543929);obtain ⟨c0,c1⟩:=tJ i k;have HB:=ah ((Below.refl w.heap.size w).alloc (Nat.le_refl _) (.cells #[.bool false,.slice none 0 0,.slice none 0 0] 99));have HT:=ah (aH.new w #[.bool false,.slice none 0 0,.slice none 0 0] 99);have CP:=ah (fun W=>BZ (oL i k) 65536 5 5 W c0 (by omega) (by omega) (by omega) (by omega) (by decide));go_enter Tryz.func87,Tryz.ntmps87;go_wp2_with fail;rw [HM.out,HC.out];refine (CP.out _).mono ?_;rintro e w1 ⟨v1,rfl,hq,hb⟩;obtain ⟨s,ao,L,cap,bo,M,cap2,rfl⟩:=fB hq;have HT1:=ah (HT.out.below hb);have HQ:=ah (je ⟨_,_,_,_,_,_,_,HT1.out⟩ hq);have hlt:=HT1.out.lt;have HB1:=ah (HB.out.trans (hb.mono (by simp)));have x0:=HT1.out.cell (i:=0) rfl;have x1:=HT1.out.cell (i:=1) rfl;have x2:=HT1.out.cell (i:=2) rfl;have f0:=HT1.out.frozen 0;have f1:=HT1.out.frozen 1;have f2:=HT1.out.frozen 2;have HS:=ah ((uD ⟨_,_,_,_,_,_,_,HT1.out⟩ (.bool s) (.slice ao L cap) (.slice bo M cap2)).2);have HI:=ah hq;clear hq hb HT HT1 HB CP HC HM;go_wp2_with fail;refine bodyPost_ret (v:=.agg #[.bool s,.slice ao L cap,.slice bo M cap2]) (by simp [results,Tryz.results87,go_sem,x0,x1,x2]) rfl ⟨_,rfl,?_,bN HB1.out (by omega)⟩;rw [HS.out.2];exact HS.out.1 _ _ _ _ _ _ HI.out
section
variable {P:Program} {Q:Exit→Act→World→Prop}
theorem uf (hm:P.follows .mixedOrders=true) {id:Nat} {a0:Act} {w0:World} {l:List Oper} (n:Nat) (hn:n≤l.length) (hdag:dagN l.toArray n=true) (hdst:Np l.toArray n=true)
  (Ah:J9 l n=true) (hseq:Region.seqB .any l.toArray (l.length-n) n (xC n l.length)=true)
  (J:Act→World→Prop) (φ:Nat→Value→World→Prop) (W:World→Prop) (G:World→World→Prop)
  (hJ0:J a0 w0.drew)
  (hW0:W w0.drew)
  (hmono:∀j v w w',φ j v w→G w w'→φ j v w')
  (hin:∀(j:Nat) (o:Oper) d,j<n→l.toArray[j]?=some o→o.dst=some d→d<a0.tmps.size)
  (hop:∀(i:Nat) (o:Oper) (a:Act) (w:World),i<n→l.toArray[i]?=some o→uN l.toArray n a0 a→W w→J a w→
   (∀e∈o.after,Region.binds .any e=true→∀(p:Oper) d,l.toArray[e.on]?=some p→p.dst=some d→φ e.on (a.tmps.getD d undef) w)→
   o.wp P a w (fun a' w'=>∃v,a'=a.put o.dst v∧φ i v w'∧W w'∧G w w'∧J a' w') Q)
  (hfin:∀a w,uN l.toArray n a0 a→W w→J a w→(∀(j:Nat) (o:Oper) d,j<n→l.toArray[j]?=some o→o.dst=some d→φ j (a.tmps.getD d undef) w)→wpList P l.toArray Q (l.drop n) a w) :
  (Code.region id l.toArray true).wp P Q a0 w0:=by
 refine wp_region_any hm ?_
 have main:∀(m:Nat) (ls:Array Bool) (a:Act) (w:World),HeadInv .any l.toArray n ls→ls.size=l.length→(∀k,n≤k→k<l.length→ls.getD k true=false)→uN l.toArray n a0 a→W w→J a w→
   (∀(j:Nat) (o:Oper) d,j<n→l.toArray[j]?=some o→ls.getD j false=true→o.dst=some d→φ j (a.tmps.getD d undef) w)→nV ls n=m→wpAny P .any l.toArray Q (m+(l.length-n)) ls a w:=by
  intro m
  induction m with
  | zero=>
   intro ls a w inv hl ht hs hw hJ hφ hz
   have e:ls=xC n l.length:=by
    apply Array.ext';unfold xC;apply List.ext_getElem
    ·simp [hl];omega
    ·intro i h1 h2;have hi':i<ls.size:=by simpa using h1
     by_cases hi:i<n
     ·rw [List.getElem_append_left (by simpa using hi),List.getElem_replicate];have:=pV ls n hz i hi;simpa [Array.getD,hi'] using this
     ·rw [List.getElem_append_right (by simp;omega),List.getElem_replicate];have:=ht i (by omega) (by omega);simpa [Array.getD,hi'] using this
   rw [Nat.zero_add];have hdl:(l.drop n).length=l.length-n:=by simp
   have:=wpAny_of_seq (md:=.any) (ops:=l.toArray) (P:=P) (Q':=Q) (l.drop n) n ls a w (fun j=>by simp [List.getElem?_drop]) (by rw [hdl,e];exact hseq) (hfin a w hs hw hJ fun j o d hj ho hd=>hφ j o d hj ho (by
    have h1:=pV ls n hz j hj;have h3:j<ls.size:=by omega
    simpa [Array.getD,h3] using h1) hd)
   rwa [hdl] at this
  | succ m ih=>
   intro ls a w inv hl ht hs hw hJ hφ hz;rw [show m+1+(l.length-n)=(m+(l.length-n))+1 by omega]
   have hun:∃i,i<n∧ls.getD i true=false:=by
    by_cases c:∃i,i<n∧ls.getD i true=false
    ·exact c
    ·exfalso
     have h0:nV ls n=0:=by
      unfold nV;rw [List.countP_eq_zero];intro b hb;obtain ⟨i,hi,rfl⟩:=List.mem_take_iff_getElem.1 hb;have hin':i<n:=by omega
      have his:i<ls.size:=by simp at hi;omega
      have:¬ls.getD i true=false:=fun h=>c ⟨i,hin',h⟩;simpa [Array.getD,his] using this
     omega
   refine ⟨fun hr=>?_,fun i hi=>?_⟩
   ·exfalso
    have key:∀k j,j≤k→j<n→ls.getD j true=true:=by
     intro k
     induction k with
     | zero=>
      intro j hj hjn;by_cases hf:ls.getD j true=false
      ·have hjs:j<l.toArray.size:=by simp;omega
       have:j∈Region.ready .any l.toArray ls:=mem_ready.2 ⟨hf,l.toArray[j],Array.getElem?_eq_getElem hjs,fun e he _=>by
        have:=tF hdag hjn (Array.getElem?_eq_getElem hjs) e he;omega⟩
       rw [hr] at this;cases this
      ·simpa using hf
     | succ k ihk=>
      intro j hj hjn;by_cases hf:ls.getD j true=false
      ·have hjs:j<l.toArray.size:=by simp;omega
       have:j∈Region.ready .any l.toArray ls:=mem_ready.2 ⟨hf,l.toArray[j],Array.getElem?_eq_getElem hjs,fun e he _=>by
        have h1:=tF hdag hjn (Array.getElem?_eq_getElem hjs) e he;have h2:=ihk e.on (by omega) (by omega);have h3:e.on<ls.size:=by omega
        simpa [Array.getD,h3] using h2⟩
       rw [hr] at this;cases this
      ·simpa using hf
    obtain ⟨i,hi,hf⟩:=hun;rw [key i i (Nat.le_refl _) hi] at hf;cases hf
   ·obtain ⟨hnot,o,ho,hafter⟩:=mem_ready.1 hi
    have hin':i<n:=by
     rcases Nat.lt_or_ge i n with h | h
     ·exact h
     ·exfalso;obtain ⟨j,hj,hf⟩:=hun;have his:i<l.length:=by have:=(Array.getElem?_eq_some_iff.1 ho).1;simpa using this
      unfold J9 at Ah;rw [Bool.or_eq_true,decide_eq_true_eq,Bool.and_eq_true] at Ah;rcases Ah with h1 | ⟨h1,h2⟩
      ·omega
      ·exact tail_waits h1 h2 (by simp;omega) inv _ j rfl hj hf i h hi
    obtain ⟨hg,d,hd⟩:=KD hdst hin' ho;unfold wpOp;simp only [ho];rw [if_pos (by simp [Region.wanted,hg])];refine .inl (Oper.wp_mono ?_ (hop i o a w hin' ho hs hw hJ fun e he hb p d' hp hd'=>hφ e.on p d' (by have:=tF hdag hin' ho e he;omega) hp (hafter e he hb) hd'));rintro a' w' ⟨v,rfl,hv,hw',hG,hJ'⟩;have hput:a.put o.dst v={ a with tmps:=a.tmps.setIfInBounds d v }:=by unfold Act.put;rw [hd]
    rw [hput] at hJ' ⊢;refine ih _ _ _ (inv.set hi hin') (by simpa using hl) (fun k hk hkl=>?_) ⟨by simpa using hs.1,hs.2.1,fun s hns=>?_⟩ hw' hJ' (fun j p d' hjn hp hlj hd'=>?_) (by have:=vZ ls n i hin' hnot;omega)
    ·have hne:i≠k:=by omega
     have:=ht k hk hkl;simpa [Array.getD_eq_getD_getElem?,Array.getElem?_setIfInBounds_ne hne] using this
    ·have hne:d≠s:=by rintro rfl;exact hns i o hin' ho hd
     rw [←hs.2.2 s hns];simp [Array.getD_eq_getD_getElem?,Array.getElem?_setIfInBounds_ne hne]
    ·by_cases hij:j=i
     ·subst hij;rw [ho] at hp;cases hp;rw [hd] at hd';cases hd';have hsz:d<a.tmps.size:=by rw [hs.1];exact hin _ _ _ hin' ho hd
      have:(a.tmps.setIfInBounds d v).getD d undef=v:=by simp [Array.getD_eq_getD_getElem?,hsz]
      rw [this];exact hv
     ·have hne:d≠d':=by
       rintro rfl;exact hij (Gn hdst hjn hin' hp ho (by rw [hd,hd']))
      have:(a.tmps.setIfInBounds d v).getD d' undef=a.tmps.getD d' undef:=by simp [Array.getD_eq_getD_getElem?,Array.getElem?_setIfInBounds_ne hne]
      rw [this];refine hmono _ _ _ _ (hφ j p d' hjn hp ?_ hd') hG;have hni:i≠j:=fun e=>hij e.symm;rw [←hlj];simp [Array.getD_eq_getD_getElem?,Array.getElem?_setIfInBounds_ne hni]
 have h0:nV (Array.replicate l.length false) n=n:=by
  unfold nV;rw [Array.toList_replicate,List.take_replicate,List.countP_replicate];simp
  omega
 have:=main n (Array.replicate l.length false) a0 w0.drew ⟨by simp,fun j oj _ hl=>(by
  exfalso;by_cases hjs:j<l.length
  ·simp [Array.getD,hjs] at hl
  ·simp [Array.getD,hjs] at hl),fun t _ ht=>(by simp at ht;simp [Array.getD,ht])⟩ (by simp) (fun k hk hkl=>by simp [Array.getD,hkl]) ⟨rfl,rfl,fun _ _=>rfl⟩ hW0 hJ0 (fun j o d hj ho hlj _=>by
  exfalso;by_cases hjs:j<l.length
  ·simp [Array.getD,hjs] at hlj
  ·simp [Array.getD,hjs] at hlj) h0
 rw [show n+(l.length-n)=l.toArray.size by simp;omega] at this;simpa using this
end
def Two (s1 s2:Nat) (a:Act) (W:World):Prop:=(∀b,a.tmps.getD s1 undef=.pointer (some ⟨b,0,none⟩)→b<W.heap.size∧a.tmps.getD s2 undef≠.pointer (some ⟨b,0,none⟩))∧∀b,a.tmps.getD s2 undef=.pointer (some ⟨b,0,none⟩)→b<W.heap.size
theorem yK {a:Act} {d s:Nat} (v:Value) (h:d≠s):(a.put (some d) v).tmps.getD s undef=a.tmps.getD s undef:=by
 unfold Act.put;simp [Array.getD_eq_getD_getElem?,Array.getElem?_setIfInBounds_ne h]
theorem gI {s1 s2 d:Nat} {a:Act} {W W':World} (h:Two s1 s2 a W) (g:Below W.heap.size W W') (v:Value) (h1:d≠s1) (h2:d≠s2):Two s1 s2 (a.put (some d) v) W':=by
 unfold Two;rw [yK v h1,yK v h2];refine ⟨fun b hb=>⟨Nat.lt_of_lt_of_le (h.1 b hb).1 g.size,(h.1 b hb).2⟩,fun b hb=>Nat.lt_of_lt_of_le (h.2 b hb) g.size⟩
theorem IG {a:Act} {d:Nat} (v:Value):(a.put (some d) v).tmps.getD d undef=v∨(a.put (some d) v).tmps.getD d undef=undef:=by
 unfold Act.put;simp only [Array.getD_eq_getD_getElem?];by_cases h:d<a.tmps.size
 ·left;simp [h]
 ·right;simp [h]
theorem rE {b:Nat}:undef≠(Value.pointer (some ⟨b,0,none⟩)):=by
 unfold undef;intro h;cases h
theorem Ke {s1 s2:Nat} {a:Act} {W:World} (h:Two s1 s2 a W) (o:Obj) (hne:s1≠s2):Two s1 s2 (a.put (some s1) (.pointer (some ⟨W.heap.size,0,none⟩))) (W.alloc o):=by
 unfold Two;rw [yK (d:=s1) (s:=s2) _ hne];refine ⟨fun b hb=>?_,fun b hb=>by have:=h.2 b hb;simp;omega⟩;rcases IG (a:=a) (d:=s1) (.pointer (some ⟨W.heap.size,0,none⟩)) with e | e
 ·rw [e] at hb;injection hb with hb;injection hb with hb;injection hb with hb;subst hb;refine ⟨by simp,fun k=>?_⟩;have:=h.2 _ k;omega
 ·rw [e] at hb;exact absurd hb rE
theorem Kc {s1 s2:Nat} {a:Act} {W:World} (h:Two s1 s2 a W) (o:Obj) (hne:s1≠s2):Two s1 s2 (a.put (some s2) (.pointer (some ⟨W.heap.size,0,none⟩))) (W.alloc o):=by
 unfold Two;rw [yK (d:=s2) (s:=s1) _ (Ne.symm hne)];refine ⟨fun b hb=>⟨by have:=(h.1 b hb).1;simp;omega,fun k=>?_⟩,fun b hb=>?_⟩
 ·rcases IG (a:=a) (d:=s2) (.pointer (some ⟨W.heap.size,0,none⟩)) with e | e
  ·rw [e] at k;injection k with k;injection k with k;injection k with k;have:=(h.1 b hb).1;omega
  ·rw [e] at k;exact absurd k rE
 ·rcases IG (a:=a) (d:=s2) (.pointer (some ⟨W.heap.size,0,none⟩)) with e | e
  ·rw [e] at hb;injection hb with hb;injection hb with hb;injection hb with hb;subst hb;simp
  ·rw [e] at hb;exact absurd hb rE
end Go.Proofs.YtopmdeefcjdadaaGreat
