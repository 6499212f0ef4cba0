import Derived.Test.YtopmdeefcjdadaaGreatT42M00
import Derived.Test.YtopmdeefcjdadaaGreatProg
import Derived.WalkKit
import Derived.WalkSpells
import Derived.WalkLawsBesides
import Derived.OwnWalk
import Derived.Laws.AppendOwn
import Derived.Laws.OwnMore
import Derived.Lib.Hide
import Derived.Handy
set_option linter.unusedVariables false
set_option linter.unusedSimpArgs false
set_option maxRecDepth 100000
set_option maxHeartbeats 32000000
namespace Go.Proofs.YtopmdeefcjdadaaGreat
def BB:Nat:=1000000000
theorem nN:0<BB:=by decide
theorem pQ (i:Nat):0<BB ^ i:=Nat.pow_pos nN
def dg (n i:Nat):Nat:=n / BB ^ i % BB
theorem nH (n i:Nat):dg n i<BB:=Nat.mod_lt _ nN
theorem mod_succ (n i:Nat):n % BB ^ (i+1)=n % BB ^ i+BB ^ i*dg n i:=by
 unfold dg;rw [Nat.pow_succ,Nat.mod_mul]
def fT (n L:Nat):Prop:=n<BB ^ L∧(0<L→BB ^ (L-1)≤n)
theorem Ab:fT 0 0:=⟨by decide,by omega⟩
theorem mI {n L M:Nat} (h:fT n L) (k:fT n M):L=M:=by
 have key:∀{L M:Nat},fT n L→fT n M→¬L<M:=by
  intro L M h k hlt;have h1:=k.2 (by omega);have h2:BB ^ L≤BB ^ (M-1):=Nat.pow_le_pow_right nN (by omega);have:=h.1;omega
 rcases Nat.lt_trichotomy L M with e | e | e
 ·exact absurd e (key h k)
 ·exact e
 ·exact absurd e (key k h)
theorem eu {n L:Nat} (h:fT n L):n=0↔L=0:=by
 constructor
 ·rintro rfl;exact mI h Ab
 ·rintro rfl;have:=h.1;simp at this;exact this
theorem DX (n:Nat):∃L,fT n L:=by
 have:∀M,n<BB ^ M→∃L,L≤M∧fT n L:=by
  intro M
  induction M with
  | zero=>intro h;exact ⟨0,Nat.le_refl _,h,by omega⟩
  | succ M ih=>
   intro h;by_cases h2:n<BB ^ M
   ·obtain ⟨L,hL,k⟩:=ih h2;exact ⟨L,by omega,k⟩
   ·exact ⟨M+1,Nat.le_refl _,h,fun _=>by simpa using h2⟩
 obtain ⟨L,_,h⟩:=this n (by
  have:n<2 ^ n:=Nat.lt_two_pow_self;exact Nat.lt_of_lt_of_le this (Nat.pow_le_pow_left (by decide) n))
 exact ⟨L,h⟩
theorem rY {n L M:Nat} (h:fT n L) (k:n<BB ^ M):L≤M:=by
 rcases Nat.lt_or_ge M L with e | e
 ·have h1:=h.2 (by omega);have h2:BB ^ M≤BB ^ (L-1):=Nat.pow_le_pow_right nN (by omega);omega
 ·exact e
theorem Rk {n L:Nat} (h:fT n L) (hL:0<L):0<dg n (L-1):=by
 unfold dg;have h1:=h.2 hL;have h2:=h.1;obtain ⟨M,rfl⟩:∃M,L=M+1:=⟨L-1,by omega⟩;simp only [Nat.add_sub_cancel] at *;have h3:n / BB ^ M<BB:=(Nat.div_lt_iff_lt_mul (pQ M)).2 (by rw [Nat.pow_succ,Nat.mul_comm] at h2;exact h2);rw [Nat.mod_eq_of_lt h3];exact Nat.div_pos h1 (pQ M)
theorem bV {n i:Nat} (h:n<BB ^ i):dg n i=0:=by
 unfold dg;rw [Nat.div_eq_of_lt h];rfl
theorem Rf {L:Nat}:∀{a b:Nat},a<BB ^ L→b<BB ^ L→(∀i,i<L→dg a i=dg b i)→a=b:=by
 intro a b ha hb h
 have:∀i,i≤L→a % BB ^ i=b % BB ^ i:=by
  intro i
  induction i with
  | zero=>intro _;simp [Nat.mod_one]
  | succ i ih=>intro hi;rw [mod_succ,mod_succ,ih (by omega),h i (by omega)]
 have:=this L (Nat.le_refl _);rwa [Nat.mod_eq_of_lt ha,Nat.mod_eq_of_lt hb] at this
def tQ (f:Nat→Nat):Nat→Nat
 | 0=>0
 | L+1=>tQ f L+f L*BB ^ L
theorem rowV_lt (f:Nat→Nat) (L:Nat) (h:∀i,i<L→f i<BB):tQ f L<BB ^ L:=by
 induction L with
 | zero=>simp [tQ]
 | succ L ih=>
  have h1:=ih fun i hi=>h i (by omega);have h2:=h L (by omega);have h3:(f L+1)*BB ^ L≤BB*BB ^ L:=Nat.mul_le_mul_right _ h2;rw [tQ,Nat.pow_succ,Nat.mul_comm (BB ^ L) BB];have:(f L+1)*BB ^ L=f L*BB ^ L+BB ^ L:=by rw [Nat.add_mul,Nat.one_mul]
  omega
theorem E5 (f:Nat→Nat) (L i:Nat) (h:∀i,i<L→f i<BB) (hi:i≤L):tQ f L % BB ^ i=tQ f i:=by
 induction L with
 | zero=>
      obtain rfl:i=0:=by omega
      simp [tQ]
 | succ L ih=>
  by_cases e:i=L+1
  ·subst e;exact Nat.mod_eq_of_lt (rowV_lt f _ h)
  ·rw [tQ];have:BB ^ L=BB ^ i*BB ^ (L-i):=by rw [←Nat.pow_add];congr 1;omega
   rw [this,←Nat.mul_assoc,Nat.mul_comm (f L),Nat.mul_assoc,Nat.add_mul_mod_self_left];exact ih (fun i hi=>h i (by omega)) (by omega)
theorem KE (f:Nat→Nat) (L i:Nat) (h:∀i,i<L→f i<BB) (hi:i<L):dg (tQ f L) i=f i:=by
 have h1:=E5 f L (i+1) h (by omega);have h2:=E5 f L i h (by omega);rw [mod_succ,h2,tQ] at h1;have h3:BB ^ i*dg (tQ f L) i=BB ^ i*f i:=by rw [Nat.mul_comm (BB ^ i) (f i)];omega
 exact Nat.eq_of_mul_eq_mul_left (pQ i) h3
def eG (a b i:Nat):Nat:=(a % BB ^ i+b % BB ^ i) / BB ^ i
theorem xI (a b i:Nat):eG a b i≤1:=by
 unfold eG;have h1:=Nat.mod_lt a (pQ i);have h2:=Nat.mod_lt b (pQ i);exact Nat.le_of_lt_succ ((Nat.div_lt_iff_lt_mul (pQ i)).2 (by omega))
theorem vo (a b i:Nat):(a+b) / BB ^ i=a / BB ^ i+b / BB ^ i+eG a b i:=by
 unfold eG;have h1:=Nat.div_add_mod a (BB ^ i);have h2:=Nat.div_add_mod b (BB ^ i);have h3:a+b=(a % BB ^ i+b % BB ^ i)+BB ^ i*(a / BB ^ i+b / BB ^ i):=by rw [Nat.mul_add];omega
 rw [h3,Nat.add_mul_div_left _ _ (pQ i)];omega
theorem DK (a b i:Nat):dg (a+b) i=(eG a b i+dg a i+dg b i) % BB:=by
 unfold dg;rw [vo];generalize a / BB ^ i=x;generalize b / BB ^ i=y;generalize eG a b i=c;unfold BB;omega
theorem uH (a b i:Nat):eG a b (i+1)=(eG a b i+dg a i+dg b i) / BB:=by
 have h1:=vo a b (i+1);have h2:=vo a b i;have e:∀x:Nat,x / BB ^ (i+1)=x / BB ^ i / BB:=fun x=>by rw [Nat.pow_succ,Nat.div_div_eq_div_mul]
 rw [e,e a,e b,h2] at h1;unfold dg;generalize a / BB ^ i=x at *;generalize b / BB ^ i=y at *;generalize eG a b i=c at *;unfold BB at *;omega
theorem yA (a b:Nat):eG a b 0=0:=by simp [eG,Nat.mod_one]
def iJ (a b i:Nat):Nat:=if a % BB ^ i<b % BB ^ i then 1 else 0
theorem PY (a b i:Nat) (h:b≤a):(dg (a-b) i:Int)=((dg a i:Int)-iJ a b i-dg b i)+(if (dg a i:Int)-iJ a b i-dg b i<0 then 1000000000 else 0)∧
  iJ a b (i+1)=(if (dg a i:Int)-iJ a b i-dg b i<0 then 1 else 0):=by
 obtain ⟨c,rfl⟩:∃c,a=c+b:=⟨a-b,by omega⟩;have h1:=DK c b i
 have h3:iJ (c+b) b i=eG c b i:=by
  unfold iJ eG;have h1:=Nat.mod_lt c (pQ i);have h2:=Nat.mod_lt b (pQ i);rw [Nat.add_mod];generalize BB ^ i=P at *;by_cases e:c % P+b % P<P
  ·rw [Nat.mod_eq_of_lt e,Nat.div_eq_of_lt e,if_neg (by omega)]
  ·have e2:(c % P+b % P) % P=c % P+b % P-P:=by rw [Nat.mod_eq_sub_mod (by omega),Nat.mod_eq_of_lt (by omega)]
   have e3:(c % P+b % P) / P=1:=by rw [Nat.div_eq_iff (by omega)];omega
   rw [e2,e3,if_pos (by omega)]
 have h4:iJ (c+b) b (i+1)=eG c b (i+1):=by
  unfold iJ eG;have h1:=Nat.mod_lt c (pQ (i+1));have h2:=Nat.mod_lt b (pQ (i+1));rw [Nat.add_mod];generalize BB ^ (i+1)=P at *;by_cases e:c % P+b % P<P
  ·rw [Nat.mod_eq_of_lt e,Nat.div_eq_of_lt e,if_neg (by omega)]
  ·have e2:(c % P+b % P) % P=c % P+b % P-P:=by rw [Nat.mod_eq_sub_mod (by omega),Nat.mod_eq_of_lt (by omega)]
   have e3:(c % P+b % P) / P=1:=by rw [Nat.div_eq_iff (by omega)];omega
   rw [e2,e3,if_pos (by omega)]
 have h5:=uH c b i;have hc:=xI c b i;have d1:=nH c i;have d2:=nH b i;rw [h3,h4,Nat.add_sub_cancel];generalize dg (c+b) i=x at *;generalize dg c i=y at *;generalize dg b i=z at *;generalize eG c b (i+1)=u at *;generalize eG c b i=v at *;unfold BB at *;constructor
 ·split<;>omega
 ·split<;>omega
end Go.Proofs.YtopmdeefcjdadaaGreat
namespace Go.Proofs.YtopmdeefcjdadaaGreat
theorem Nb (W y P q Y2 W2 qt:Nat) (hP:0<P) (hY:Y2=y / P) (hW:W2=W / P) (hy:0<y) (Od:qt=W / y) (h:W2<q*Y2):qt+1≤q:=by
 subst hY hW Od
 have h1:W<q*y:=by
  have a1:=Nat.div_add_mod y P;have a2:=Nat.div_add_mod W P;have a3:=Nat.mod_lt W hP;have a4:(W / P+1)*P≤q*(y / P)*P:=Nat.mul_le_mul_right P h;have a5:q*(y / P)*P≤q*y:=by rw [Nat.mul_assoc];apply Nat.mul_le_mul_left;rw [Nat.mul_comm];omega
  rw [Nat.add_mul,Nat.one_mul,Nat.mul_comm (W / P) P] at a4;omega
 exact (Nat.div_lt_iff_lt_mul hy).2 h1
theorem Ak (W y P q Y2 W2 qt:Nat) (hP:0<P) (hY:Y2=y / P) (hW:W2=W / P) (hy:0<y) (Od:qt=W / y) (h:q*Y2≤W2) (hq:q≤Y2+1):q≤qt+1:=by
 subst hY hW Od;rcases Nat.eq_zero_or_pos q with h0 | h0
 ·rw [h0];exact Nat.zero_le _
 ·obtain ⟨p,rfl⟩:∃p,q=p+1:=⟨q-1,by omega⟩
  have h1:p*y≤W:=by
   have a1:=Nat.div_add_mod y P;have a2:=Nat.div_add_mod W P;have a3:=Nat.mod_lt y hP;have a4:(p*(y / P)+p)*P≤W / P*P:=Nat.mul_le_mul_right P (by rw [Nat.add_mul,Nat.one_mul] at h;omega)
   have a5:p*y≤(p*(y / P)+p)*P:=by
    rw [show p*(y / P)+p=p*(y / P+1) by rw [Nat.mul_add,Nat.mul_one],Nat.mul_assoc];apply Nat.mul_le_mul_left;rw [Nat.add_mul,Nat.one_mul,Nat.mul_comm (y / P) P];omega
   rw [Nat.mul_comm (W / P) P] at a4;omega
  have:=(Nat.le_div_iff_mul_le hy).2 h1;omega
theorem Gg (W y P v1 v2 top x3 qt:Nat) (hP:0<P) (hv:y / P=v1*BB+v2) (hv2:v2<BB) (hw:W / P=top*BB+x3) (hx:x3<BB) (hv1:0<v1) (Od:qt=W / y) (hW:W<y*BB) :
  qt≤top / v1∧top / v1≤BB+BB:=by
 subst Od
 have hy:0<y:=by
  rcases Nat.eq_zero_or_pos y with h | h
  ·subst h;omega
  ·exact h
 constructor
 ·rw [Nat.le_div_iff_mul_le hv1];have a1:=Nat.div_add_mod y P;have a2:=Nat.div_add_mod W P;have a3:=Nat.mod_lt W hP;have a4:W / y*y≤W:=Nat.div_mul_le_self W y
  have b1:v1*BB*P≤y:=by
   have:v1*BB*P≤(v1*BB+v2)*P:=Nat.mul_le_mul_right _ (by omega);rw [←hv,Nat.mul_comm (y / P) P] at this;omega
  have b2:W / y*(v1*BB*P)≤W:=Nat.le_trans (Nat.mul_le_mul_left _ b1) a4
  have b3:W<(top+1)*BB*P:=by
   have:(W / P+1)*P≤(top+1)*BB*P:=Nat.mul_le_mul_right _ (by rw [hw,Nat.add_mul,Nat.one_mul];omega);rw [Nat.add_mul,Nat.one_mul,Nat.mul_comm (W / P) P] at this;omega
  have b4:W / y*v1*(BB*P)<(top+1)*(BB*P):=by
   rw [Nat.mul_assoc (W / y),←Nat.mul_assoc v1,←Nat.mul_assoc (top+1)];omega
  have:=Nat.lt_of_mul_lt_mul_right b4;omega
 ·-- W < y BB < (v1 BB + v2 + 1) P BB
  have a1:=Nat.div_add_mod y P;have a3:=Nat.mod_lt y hP
  have c1:y<(v1*BB+v2+1)*P:=by
   rw [Nat.add_mul (v1*BB+v2) 1,Nat.one_mul,←hv,Nat.mul_comm (y / P) P];omega
  have c2:y*BB<(v1*BB+v2+1)*BB*P:=by
   rw [Nat.mul_right_comm];exact Nat.mul_lt_mul_of_pos_right c1 nN
  have c3:W / P<(v1*BB+v2+1)*BB:=(Nat.div_lt_iff_lt_mul hP).2 (by omega);rw [hw] at c3
  have c4:top*BB<(v1*BB+BB)*BB:=by
   have:(v1*BB+v2+1)*BB≤(v1*BB+BB)*BB:=Nat.mul_le_mul_right _ (by omega);omega
  have c5:top<v1*BB+BB:=Nat.lt_of_mul_lt_mul_right c4
  have c6:top<(BB+BB)*v1+v1:=by
   have:BB≤BB*v1:=Nat.le_mul_of_pos_right _ hv1;rw [Nat.add_mul,Nat.mul_comm BB v1] at *;omega
  have:=(Nat.div_lt_iff_lt_mul hv1 (x:=top) (y:=BB+BB+1)).2 (by rw [Nat.add_mul,Nat.one_mul];exact c6);omega
theorem Jp (W y P v1 v2 top x3 qt q r:Nat) (hP:0<P) (hv:y / P=v1*BB+v2) (hw:W / P=top*BB+x3) (hy:0<y) (Od:qt=W / y) (hW:W<y*BB)
  (hr:top=q*v1+r) (h:BB≤q∨r*BB+x3<q*v2):qt+1≤q:=by
 rcases h with h | h
 ·subst Od;have:=(Nat.div_lt_iff_lt_mul hy (x:=W) (y:=BB)).2 (by rw [Nat.mul_comm];exact hW);omega
 ·refine Nb W y P q (v1*BB+v2) (top*BB+x3) qt hP hv.symm hw.symm hy Od ?_;subst hr;rw [Nat.add_mul,Nat.mul_add,Nat.mul_assoc];omega
theorem Jo (W y P v1 v2 top x3 qt q r:Nat) (hP:0<P) (hv:y / P=v1*BB+v2) (hw:W / P=top*BB+x3) (hy:0<y) (Od:qt=W / y) (hv1:0<v1)
  (hr:top=q*v1+r) (h1:q<BB) (h2:q*v2≤r*BB+x3):q≤qt+1:=by
 refine Ak W y P q (v1*BB+v2) (top*BB+x3) qt hP hv.symm hw.symm hy Od ?_ ?_
 ·subst hr;rw [Nat.add_mul,Nat.mul_add,Nat.mul_assoc];omega
 ·have:BB≤v1*BB:=Nat.le_mul_of_pos_left _ hv1;omega
theorem Gh (W y P v1 v2 top x3 qt q r:Nat) (hP:0<P) (hv:y / P=v1*BB+v2) (hw:W / P=top*BB+x3) (hy:0<y) (Od:qt=W / y) (hv1:0<v1) (hv2:v2<BB)
  (hr:top=q*v1+r) (h1:q≤BB) (h2:BB≤r):q≤qt+1:=by
 refine Ak W y P q (v1*BB+v2) (top*BB+x3) qt hP hv.symm hw.symm hy Od ?_ ?_
 ·subst hr;rw [Nat.add_mul,Nat.mul_add,Nat.mul_assoc];have a1:q*v2≤BB*BB:=Nat.mul_le_mul h1 (Nat.le_of_lt hv2);have a2:BB*BB≤r*BB:=Nat.mul_le_mul_right _ h2;omega
 ·have:BB≤v1*BB:=Nat.le_mul_of_pos_left _ hv1;omega
end Go.Proofs.YtopmdeefcjdadaaGreat
namespace Go.Proofs.YtopmdeefcjdadaaGreat
def lV (W y q i:Nat):Int:=(((W % BB ^ i:Nat):Int)-(q:Int)*((y % BB ^ i:Nat):Int)) / ((BB ^ i:Nat):Int)
def Gs (W y q i:Nat):Int:=((dg W i:Int)+lV W y q i-(q:Int)*(dg y i:Int)) % (BB:Int)
theorem tH (W y q:Nat):lV W y q 0=0:=by simp [lV,Nat.mod_one]
theorem pE (W y q i:Nat):lV W y q (i+1)=((dg W i:Int)+lV W y q i-(q:Int)*(dg y i:Int)) / (BB:Int):=by
 unfold lV;rw [mod_succ W,mod_succ y,Nat.pow_succ];have hp:(0:Int)<((BB ^ i:Nat):Int):=by have:=pQ i;omega
 generalize BB ^ i=P at *
 have e:(((W % P+P*dg W i:Nat):Int)-(q:Int)*((y % P+P*dg y i:Nat):Int))=(((W % P:Nat):Int)-(q:Int)*((y % P:Nat):Int))+((dg W i:Int)-(q:Int)*(dg y i:Int))*(P:Int):=by
  simp only [Int.natCast_add,Int.natCast_mul,Int.mul_add,Int.sub_mul];rw [Int.mul_comm (P:Int) (dg W i:Int),Int.mul_comm (P:Int) (dg y i:Int),←Int.mul_assoc];omega
 rw [e,Int.natCast_mul,←Int.ediv_ediv_of_nonneg (by omega),Int.add_mul_ediv_right _ _ (by omega)];congr 1
 omega
theorem cryT_le (W y q i:Nat):lV W y q i≤0:=by
 induction i with
 | zero=>rw [tH];omega
 | succ i ih=>
  rw [pE];have h1:=nH W i;have h2:(0:Int)≤(q:Int)*(dg y i:Int):=Int.mul_nonneg (by omega) (by omega);generalize (q:Int)*(dg y i:Int)=z at *;generalize lV W y q i=c at *;unfold BB at *;omega
theorem cryT_ge (W y q i:Nat):-(q:Int)≤lV W y q i:=by
 induction i with
 | zero=>rw [tH];omega
 | succ i ih=>
  rw [pE];have h1:=nH W i;have h2:=nH y i;have h3:(q:Int)*(dg y i:Int)≤(q:Int)*((BB:Int)-1):=Int.mul_le_mul_of_nonneg_left (by omega) (by omega);rw [Int.mul_sub,Int.mul_one] at h3;generalize (q:Int)*(dg y i:Int)=z at *;generalize lV W y q i=c at *;have hz:z≤(q:Int)*BB-q:=h3;unfold BB at *;omega
theorem rowT (W y q:Nat) (i:Nat):((tQ (fun k=>(Gs W y q k).toNat) i:Nat):Int)=(((W % BB ^ i:Nat):Int)-(q:Int)*((y % BB ^ i:Nat):Int))-lV W y q i*((BB ^ i:Nat):Int):=by
 induction i with
 | zero=>simp [tQ,tH,Nat.mod_one]
 | succ i ih=>
  rw [tQ,pE,mod_succ W,mod_succ y,Nat.pow_succ]
  have hd:(((Gs W y q i).toNat:Nat):Int)=Gs W y q i:=by
   have:0≤Gs W y q i:=Int.emod_nonneg _ (by unfold BB;omega);omega
  simp only [Int.natCast_add,Int.natCast_mul];rw [ih,hd];unfold Gs;have e:=Int.mul_ediv_add_emod ((dg W i:Int)+lV W y q i-(q:Int)*(dg y i:Int)) (BB:Int);generalize ((BB ^ i:Nat):Int)=P at *;generalize ((dg W i:Int)+lV W y q i-(q:Int)*(dg y i:Int)) % (BB:Int)=m at *;generalize ((dg W i:Int)+lV W y q i-(q:Int)*(dg y i:Int)) / (BB:Int)=d at *;generalize lV W y q i=c at *;generalize (dg W i:Int)=a at *;generalize (dg y i:Int)=b at *;generalize ((W % BB ^ i:Nat):Int)=u at *;generalize ((y % BB ^ i:Nat):Int)=v at *;have hm:m=a+c-(q:Int)*b-(BB:Int)*d:=by omega
  subst hm;generalize (BB:Int)=z at *;generalize (q:Int)=p at *;simp only [Int.mul_add,Int.sub_mul,Int.add_mul];rw [Int.mul_comm P a,←Int.mul_assoc p P b,Int.mul_comm p P,Int.mul_assoc P p b,Int.mul_comm P (p*b),←Int.mul_assoc d P z,Int.mul_comm (d*P) z,←Int.mul_assoc z d P];omega
end Go.Proofs.YtopmdeefcjdadaaGreat
namespace Go.Proofs.YtopmdeefcjdadaaGreat
theorem D8 (W y q i:Nat):0≤Gs W y q i∧Gs W y q i<BB:=by
 unfold Gs;exact ⟨Int.emod_nonneg _ (by unfold BB;omega),Int.emod_lt_of_pos _ (by unfold BB;omega)⟩
theorem O4 (W y q L:Nat) (hW:W<BB ^ L) (hy:y<BB ^ L) (h:q*y≤W):lV W y q L=0∧∀i,i<L→Gs W y q i=(dg (W-q*y) i:Int):=by
 have hc:lV W y q L=0:=by
  unfold lV;rw [Nat.mod_eq_of_lt hW,Nat.mod_eq_of_lt hy];apply Int.ediv_eq_zero_of_lt
  ·have:((q*y:Nat):Int)≤(W:Int):=by exact_mod_cast h
   rw [Int.natCast_mul] at this;omega
  ·have:(0:Int)≤((q*y:Nat):Int):=by omega
   rw [Int.natCast_mul] at this;omega
 refine ⟨hc,fun i hi=>?_⟩;have hr:=rowT W y q L;rw [hc,Nat.mod_eq_of_lt hW,Nat.mod_eq_of_lt hy] at hr
 have e:tQ (fun k=>(Gs W y q k).toNat) L=W-q*y:=by
  have:((W-q*y:Nat):Int)=(W:Int)-(q:Int)*(y:Int):=by rw [Int.natCast_sub h,Int.natCast_mul]
  omega
 have h1:=KE (fun k=>(Gs W y q k).toNat) L i (fun k _=>by have:=D8 W y q k;omega) hi;rw [e] at h1;have:=D8 W y q i;omega
theorem Ih (W y q L:Nat) (hW:W<BB ^ L) (hy:y<BB ^ L) (h:W<q*y) (hq:q*y≤W+y):lV W y q L=-1∧∀i,i<L→Gs W y q i=(dg (BB ^ L+W-q*y) i:Int):=by
 have a1:((q*y:Nat):Int)≤(W:Int)+(y:Int):=by exact_mod_cast hq
 have a2:(W:Int)<((q*y:Nat):Int):=by exact_mod_cast h
 have hc:lV W y q L=-1:=by
  unfold lV;rw [Nat.mod_eq_of_lt hW,Nat.mod_eq_of_lt hy];rw [Int.natCast_mul] at a1 a2;rw [show ((W:Int)-(q:Int)*(y:Int))=((W:Int)-(q:Int)*(y:Int)+((BB ^ L:Nat):Int))+(-1)*((BB ^ L:Nat):Int) by omega,Int.add_mul_ediv_right _ _ (by have:=pQ L;omega),Int.ediv_eq_zero_of_lt (by omega) (by omega)];rfl
 refine ⟨hc,fun i hi=>?_⟩;have hr:=rowT W y q L;rw [hc,Nat.mod_eq_of_lt hW,Nat.mod_eq_of_lt hy] at hr
 have e:tQ (fun k=>(Gs W y q k).toNat) L=BB ^ L+W-q*y:=by
  have h2:q*y≤BB ^ L+W:=by omega
  have:((BB ^ L+W-q*y:Nat):Int)=((BB ^ L:Nat):Int)+(W:Int)-(q:Int)*(y:Int):=by rw [Int.natCast_sub h2,Int.natCast_mul,Int.natCast_add]
  omega
 have h1:=KE (fun k=>(Gs W y q k).toNat) L i (fun k _=>by have:=D8 W y q k;omega) hi;rw [e] at h1;have:=D8 W y q i;omega
theorem oH (X j i:Nat):dg (X / BB ^ j) i=dg X (j+i):=by
 unfold dg;rw [Nat.div_div_eq_div_mul,←Nat.pow_add]
def qN (n k:Nat):Nat:=n / BB ^ k
theorem vk (n:Nat):qN n 0=n:=by unfold qN;simp
theorem Pt (n k:Nat):qN n k / 1000000000=qN n (k+1):=by
 unfold qN;rw [Nat.div_div_eq_div_mul,Nat.pow_succ];rfl
theorem qN_lt {n k:Nat} (h:qN n k=0):n<BB ^ k:=(Nat.div_eq_zero_iff_lt (pQ k)).1 h
theorem qN_le (n k:Nat):qN n k≤n:=Nat.div_le_self _ _
theorem wR {n L:Nat} (h:n<BB ^ L):qN n L=0:=Nat.div_eq_of_lt h
theorem kF (n i:Nat):qN n i=BB*qN n (i+1)+dg n i:=by
 have h:=Pt n i;have h2:dg n i=qN n i % BB:=rfl;rw [h2,←h];exact (Nat.div_add_mod _ BB).symm
def mq (T m d k:Nat):Nat:=(T % BB ^ k+d*(m % BB ^ k)) / BB ^ k
theorem C8 (T m d:Nat):mq T m d 0=0:=by simp [mq,Nat.mod_one]
theorem yR (T m d k:Nat):(T+d*m) / BB ^ k=T / BB ^ k+d*(m / BB ^ k)+mq T m d k:=by
 unfold mq;have h1:=Nat.div_add_mod T (BB ^ k);have h2:=Nat.div_add_mod m (BB ^ k)
 have h3:T+d*m=(T % BB ^ k+d*(m % BB ^ k))+BB ^ k*(T / BB ^ k+d*(m / BB ^ k)):=by
  have:d*m=d*(BB ^ k*(m / BB ^ k))+d*(m % BB ^ k):=by rw [←Nat.mul_add,h2]
  rw [this,Nat.mul_add,←Nat.mul_assoc (BB ^ k) d,Nat.mul_comm (BB ^ k) d,Nat.mul_assoc d];omega
 rw [h3,Nat.add_mul_div_left _ _ (pQ k)];omega
theorem KO (T m d k:Nat):dg (T+d*m) k=(dg T k+mq T m d k+d*dg m k) % BB:=by
 unfold dg;rw [yR];generalize T / BB ^ k=x;generalize m / BB ^ k=y;generalize mq T m d k=c;have hx:=Nat.div_add_mod x BB;have hy:=Nat.div_add_mod y BB
 have h3:x+d*y+c=(x % BB+c+d*(y % BB))+BB*(x / BB+d*(y / BB)):=by
  have:d*y=d*(BB*(y / BB))+d*(y % BB):=by rw [←Nat.mul_add,hy]
  rw [this,Nat.mul_add,←Nat.mul_assoc BB d,Nat.mul_comm BB d,Nat.mul_assoc d];omega
 rw [h3,Nat.add_mul_mod_self_left]
theorem xQ (T m d k:Nat):mq T m d (k+1)=(dg T k+mq T m d k+d*dg m k) / BB:=by
 have h1:=yR T m d (k+1);have h2:=yR T m d k;have e:∀x:Nat,x / BB ^ (k+1)=x / BB ^ k / BB:=fun x=>by rw [Nat.pow_succ,Nat.div_div_eq_div_mul]
 rw [e,e T,e m,h2] at h1;unfold dg;generalize T / BB ^ k=x at *;generalize m / BB ^ k=y at *;generalize mq T m d k=c at *;have hx:=Nat.div_add_mod x BB;have hy:=Nat.div_add_mod y BB
 have h3:x+d*y+c=(x % BB+c+d*(y % BB))+BB*(x / BB+d*(y / BB)):=by
  have:d*y=d*(BB*(y / BB))+d*(y % BB):=by rw [←Nat.mul_add,hy]
  rw [this,Nat.mul_add,←Nat.mul_assoc BB d,Nat.mul_comm BB d,Nat.mul_assoc d];omega
 rw [h3,Nat.add_mul_div_left _ _ nN] at h1;omega
theorem Em (T m d k:Nat):mq T m d k≤d:=by
 unfold mq;have h1:=Nat.mod_lt T (pQ k);have h2:=Nat.mod_lt m (pQ k);refine Nat.le_of_lt_succ ((Nat.div_lt_iff_lt_mul (pQ k)).2 ?_);have:d*(m % BB ^ k)≤d*BB ^ k:=Nat.mul_le_mul_left _ (Nat.le_of_lt h2);rw [Nat.succ_mul];omega
theorem KN {T m d k:Nat} (hT:T<BB ^ k) (hm:m<BB ^ k) (h:mq T m d k=0):T+d*m<BB ^ k:=by
 have:=yR T m d k;rw [h,Nat.div_eq_of_lt hT,Nat.div_eq_of_lt hm,Nat.mul_zero] at this;exact (Nat.div_eq_zero_iff_lt (pQ k)).1 (by omega)
theorem rQ {a b:Nat} (h:a≤b):BB ^ a≤BB ^ b:=Nat.pow_le_pow_right nN h
theorem RA {T m d M:Nat} (hT:T<BB ^ M) (hm:m<BB ^ M) (hd:d<BB):mq T m d (M+1)=0:=by
 rw [xQ,bV hT,bV hm,Nat.mul_zero];have:=Em T m d M;exact Nat.div_eq_of_lt (by omega)
theorem Pn (n m i:Nat):n % BB ^ (i+1)*m=n % BB ^ i*m+dg n i*m*BB ^ i:=by
 rw [mod_succ,Nat.add_mul,Nat.mul_comm (BB ^ i) (dg n i),Nat.mul_assoc,Nat.mul_assoc,Nat.mul_comm (BB ^ i) m]
theorem Gr (S z i j:Nat) (h:j<i):dg (S+z*BB ^ i) j=dg S j:=by
 unfold dg
 have e:z*BB ^ i=BB ^ j*(z*BB ^ (i-j)):=by
  rw [←Nat.mul_assoc,Nat.mul_comm (BB ^ j) z,Nat.mul_assoc,←Nat.pow_add];congr 2;omega
 rw [e,Nat.add_mul_div_left _ _ (pQ j)]
 have e2:z*BB ^ (i-j)=BB*(z*BB ^ (i-j-1)):=by
  rw [←Nat.mul_assoc,Nat.mul_comm BB z,Nat.mul_assoc,←Nat.pow_succ'];congr 2;omega
 rw [e2,Nat.add_mul_mod_self_left]
theorem Cv (S z i k:Nat):dg (S+z*BB ^ i) (i+k)=dg (S / BB ^ i+z) k:=by
 rw [←oH,Nat.add_mul_div_right _ _ (pQ i)]
theorem low_lt {n m M i:Nat} (hm:m<BB ^ M):n % BB ^ i*m / BB ^ i<BB ^ M:=by
 have h1:=Nat.mod_lt n (pQ i);rw [Nat.div_lt_iff_lt_mul (pQ i)];rcases Nat.eq_zero_or_pos m with h0 | h0
 ·rw [h0,Nat.mul_zero];exact Nat.mul_pos (pQ M) (pQ i)
 ·have h2:n % BB ^ i*m<BB ^ i*m:=Nat.mul_lt_mul_of_pos_right h1 h0;have h3:BB ^ i*m≤BB ^ i*BB ^ M:=Nat.mul_le_mul_left _ (Nat.le_of_lt hm);rw [Nat.mul_comm (BB ^ M)];omega
def jG (a d i:Nat):Nat:=qN a i % d
theorem wX (a d i:Nat) (hd:0<d):(jG a d (i+1)*BB+dg a i) / d=dg (a / d) i∧(jG a d (i+1)*BB+dg a i) % d=jG a d i∧jG a d (i+1)*BB+dg a i<d*BB:=by
 unfold jG;have h1:=kF a i;have hr:=Nat.mod_lt (qN a (i+1)) hd;have hg:=nH a i;have hq:=Nat.div_add_mod (qN a (i+1)) d
 have hlt:qN a (i+1) % d*BB+dg a i<d*BB:=by
  have:(qN a (i+1) % d+1)*BB≤d*BB:=Nat.mul_le_mul_right _ hr;rw [Nat.add_mul,Nat.one_mul] at this;omega
 have h2:qN a i=(qN a (i+1) % d*BB+dg a i)+d*(BB*(qN a (i+1) / d)):=by
  have e:BB*qN a (i+1)=BB*(d*(qN a (i+1) / d))+BB*(qN a (i+1) % d):=by rw [←Nat.mul_add,hq]
  rw [h1,e,←Nat.mul_assoc BB d,Nat.mul_comm BB d,Nat.mul_assoc d,Nat.mul_comm BB (qN a (i+1) % d)];omega
 refine ⟨?_,?_,hlt⟩
 ·have h3:dg (a / d) i=qN a i / d % BB:=by
   unfold dg qN;rw [Nat.div_div_eq_div_mul,Nat.mul_comm d,←Nat.div_div_eq_div_mul]
  rw [h3,h2,Nat.add_mul_div_left _ _ hd,Nat.add_mul_mod_self_left];exact (Nat.mod_eq_of_lt ((Nat.div_lt_iff_lt_mul hd).2 (by have:=hlt;rw [Nat.mul_comm d BB] at this;exact this))).symm
 ·rw [h2,Nat.add_mul_mod_self_left]
theorem Mc {a d L:Nat} (h:a<BB ^ L):jG a d L=0:=by unfold jG;rw [wR h,Nat.zero_mod]
theorem zF (a d:Nat):jG a d 0=a % d:=by unfold jG;rw [vk]
theorem Fa (a i:Nat) {d:Nat} (h:0<d):jG a d i<d:=Nat.mod_lt _ h
def kR (a d i:Nat):Nat:=jG a d i*BB ^ i+a % BB ^ i
theorem Md (a d:Nat):kR a d 0=a % d:=by unfold kR;rw [zF];simp [Nat.mod_one]
theorem Po {a d i:Nat} (h:qN a i<d):kR a d i=a:=by
 unfold kR jG;rw [Nat.mod_eq_of_lt h];unfold qN;rw [Nat.mul_comm];exact Nat.div_add_mod a (BB ^ i)
theorem rJ (a d i:Nat):kR a d (i+1) / BB ^ i=jG a d (i+1)*BB+dg a i∧kR a d (i+1) % BB ^ i=a % BB ^ i:=by
 have e:kR a d (i+1)=a % BB ^ i+BB ^ i*(jG a d (i+1)*BB+dg a i):=by
  unfold kR;rw [mod_succ,Nat.pow_succ,Nat.mul_add,Nat.mul_comm (BB ^ i) BB,←Nat.mul_assoc,Nat.mul_comm (BB ^ i) (jG a d (i+1)*BB)];omega
 rw [e];exact ⟨by rw [Nat.add_mul_div_left _ _ (pQ i),Nat.div_eq_of_lt (Nat.mod_lt _ (pQ i)),Nat.zero_add],by rw [Nat.add_mul_mod_self_left,Nat.mod_mod]⟩
theorem BO (a d i:Nat) (hd:0<d):kR a d i=(jG a d (i+1)*BB+dg a i-dg (a / d) i*d)*BB ^ i+a % BB ^ i:=by
 obtain ⟨h1,h2,_⟩:=wX a d i hd;have h3:=Nat.div_add_mod (jG a d (i+1)*BB+dg a i) d;rw [h1,h2] at h3;unfold kR;congr 2
 rw [Nat.mul_comm (dg (a / d) i) d];omega
def FZ (A B j i:Nat):Nat:=if i<j then dg A i else dg B i
theorem kI {A B j i:Nat} (h:i<j):FZ A B j i=dg A i:=if_pos h
theorem gG {A B j i:Nat} (h:j≤i):FZ A B j i=dg B i:=if_neg (by omega)
def kJ (X V j:Nat):Nat:=X % BB ^ j+V*BB ^ j
theorem rW (X V j:Nat):kJ X V j / BB ^ j=V:=by
 unfold kJ;rw [Nat.add_mul_div_right _ _ (pQ j),Nat.div_eq_of_lt (Nat.mod_lt _ (pQ j)),Nat.zero_add]
theorem F4 (X V j:Nat):kJ X V j % BB ^ j=X % BB ^ j:=by
 unfold kJ;rw [Nat.add_mul_mod_self_right,Nat.mod_mod]
theorem Ju {X j k:Nat} (h:k<j):dg (X % BB ^ j) k=dg X k:=by
 have h1:=mod_succ (X % BB ^ j) k;have h2:=mod_succ X k;have e:∀t,t≤j→X % BB ^ j % BB ^ t=X % BB ^ t:=fun t ht=>Nat.mod_mod_of_dvd _ (Nat.pow_dvd_pow _ ht);rw [e (k+1) (by omega),e k (by omega),h2] at h1;have:BB ^ k*dg X k=BB ^ k*dg (X % BB ^ j) k:=by omega
 exact (Nat.eq_of_mul_eq_mul_left (pQ k) this).symm
theorem rX (X V:Nat) {j k:Nat} (h:k<j):dg (kJ X V j) k=dg X k:=by
 rw [←Ju (X:=kJ X V j) h,F4,Ju h]
theorem jL (X V j k:Nat):dg (kJ X V j) (j+k)=dg V k:=by
 rw [←oH,rW]
theorem Nn {b N f:Nat} (hb:fT b N) (hN:0<N) (hf:f=BB / (dg b (N-1)+1)):0<f∧f*b<BB ^ N∧2*f≤BB∧fT (f*b) N:=by
 have ht:=Rk hb hN;have hl:=nH b (N-1);have h0:0<f:=by subst hf;exact Nat.div_pos (by omega) (by omega)
 have h1:f*(dg b (N-1)+1)≤BB:=by subst hf;exact Nat.div_mul_le_self _ _
 have h2:b<(dg b (N-1)+1)*BB ^ (N-1):=by
  have:=mod_succ b (N-1);rw [show N-1+1=N by omega,Nat.mod_eq_of_lt hb.1] at this;have h3:=Nat.mod_lt b (pQ (N-1));rw [Nat.add_mul,Nat.one_mul,Nat.mul_comm (dg b (N-1))];omega
 have h3:f*b<BB ^ N:=by
  have a1:f*b<f*((dg b (N-1)+1)*BB ^ (N-1)):=Nat.mul_lt_mul_of_pos_left h2 h0;have a2:f*((dg b (N-1)+1)*BB ^ (N-1))≤BB*BB ^ (N-1):=by rw [←Nat.mul_assoc];exact Nat.mul_le_mul_right _ h1
  have a3:BB*BB ^ (N-1)=BB ^ N:=by rw [←Nat.pow_succ'];congr 1;omega
  omega
 refine ⟨h0,h3,?_,h3,fun _=>?_⟩
 ·have:f*2≤f*(dg b (N-1)+1):=Nat.mul_le_mul_left _ (by omega);omega
 ·exact Nat.le_trans (hb.2 hN) (Nat.le_mul_of_pos_left _ h0)
theorem LH {a f L:Nat} (ha:a<BB ^ L) (hf:0<f) (h:f≤BB):f*a<BB ^ (L+1):=by
 have h1:f*a<f*BB ^ L:=Nat.mul_lt_mul_of_pos_left ha hf;have h2:f*BB ^ L≤BB*BB ^ L:=Nat.mul_le_mul_right _ h;rw [Nat.pow_succ'];omega
theorem IE {a b f La N:Nat} (ha:fT a La) (hb:fT b N) (hN:0<N) (h:N≤La) (hf:0<f):qN (f*a) (La+1-N)<f*b:=by
 unfold qN;rw [Nat.div_lt_iff_lt_mul (pQ _)];rw [Nat.mul_assoc];refine Nat.mul_lt_mul_of_pos_left ?_ hf;have h1:=hb.2 hN;have h2:BB ^ (N-1)*BB ^ (La+1-N)≤b*BB ^ (La+1-N):=Nat.mul_le_mul_right _ h1;rw [←Nat.pow_add,show N-1+(La+1-N)=La by omega] at h2;have:=ha.1;omega
theorem Pp {a b f:Nat} (hf:0<f):f*a / (f*b)=a / b∧f*a % (f*b) / f=a % b:=by
 refine ⟨Nat.mul_div_mul_left _ _ hf,?_⟩;rw [Nat.mul_mod_mul_left,Nat.mul_div_cancel_left _ hf]
def qR (W y q n:Nat):Nat:=if q*y≤W then W-q*y else BB ^ n+W-q*y
theorem rG {W y q n:Nat} (hW:W<BB ^ n) (hy:y<BB ^ n) (hq:q*y≤W+y):qR W y q n<BB ^ n∧(∀i,i<n→Gs W y q i=(dg (qR W y q n) i:Int))∧(lV W y q n=if q*y≤W then 0 else -1):=by
 unfold qR;by_cases h:q*y≤W
 ·obtain ⟨h1,h2⟩:=O4 W y q n hW hy h;simp only [if_pos h];exact ⟨by omega,h2,h1⟩
 ·obtain ⟨h1,h2⟩:=Ih W y q n hW hy (by omega) hq;simp only [if_neg h];exact ⟨by omega,h2,h1⟩
theorem giveV {W y q n:Nat} (hy:y<BB ^ n) (hq:q*y≤W+y) (h:¬q*y≤W):(qR W y q n+y) % BB ^ n=W-(q-1)*y:=by
 unfold qR;rw [if_neg h]
 have h0:q≠0:=by
  rintro rfl;omega
 obtain ⟨p,rfl⟩:∃p,q=p+1:=⟨q-1,by omega⟩;rw [Nat.add_mul,Nat.one_mul] at *;rw [show BB ^ n+W-(p*y+y)+y=(W-p*y)+BB ^ n by omega,Nat.add_mod_right,Nat.add_sub_cancel];exact Nat.mod_eq_of_lt (by omega)
end Go.Proofs.YtopmdeefcjdadaaGreat
namespace Go.Proofs.YtopmdeefcjdadaaGreat
open Go.RowKit
def rA (B:Nat) (w:World) (v:Value) (n L:Nat):Prop:=
 ∃ao cap,v=.slice ao L cap∧L≤cap∧cap≤9223372036854775807∧n<BB ^ L∧(0<L→∃b off,ao=some ⟨b,off,none⟩∧b<B∧∀i,i<L→w.cell? ⟨b,off+i,none⟩=some (.int .i64 (dg n i:Nat)))
def gP (B:Nat) (w:World) (v:Value) (n:Nat):Prop:=∃L,fT n L∧rA B w v n L
theorem rA.keep {B L n:Nat} {w w':World} {v:Value} (h:rA B w v n L) (hk:∀b o,b<B→w'.cell? ⟨b,o,none⟩=w.cell? ⟨b,o,none⟩):rA B w' v n L:=by
 obtain ⟨ao,cap,e,h1,h2,h3,h4⟩:=h;refine ⟨ao,cap,e,h1,h2,h3,fun hl=>?_⟩;obtain ⟨b,off,e2,hb,hc⟩:=h4 hl;exact ⟨b,off,e2,hb,fun i hi=>(hk _ _ hb).trans (hc i hi)⟩
theorem rA.below {B L n:Nat} {w w':World} {v:Value} (h:rA B w v n L) (hb:Below B w w'):rA B w' v n L:=h.keep fun _ _ hp=>hb.cell hp
theorem rA.more {B B' L n:Nat} {w:World} {v:Value} (h:rA B w v n L) (hB:B≤B'):rA B' w v n L:=by
 obtain ⟨ao,cap,e,h1,h2,h3,h4⟩:=h;refine ⟨ao,cap,e,h1,h2,h3,fun hl=>?_⟩;obtain ⟨b,off,e2,hb,hc⟩:=h4 hl;exact ⟨b,off,e2,by omega,hc⟩
theorem gP.below {B n:Nat} {w w':World} {v:Value} (h:gP B w v n) (hb:Below B w w'):gP B w' v n:=by obtain ⟨L,h1,h2⟩:=h;exact ⟨L,h1,h2.below hb⟩
theorem gP.more {B B' n:Nat} {w:World} {v:Value} (h:gP B w v n) (hB:B≤B'):gP B' w v n:=by obtain ⟨L,h1,h2⟩:=h;exact ⟨L,h1,h2.more hB⟩
def bI (n L:Nat):List Value:=(List.range L).map fun i=>.int .i64 (dg n i:Nat)
theorem Jv (n L:Nat):(bI n L).length=L:=by simp [bI]
theorem sw (n L:Nat):bI n (L+1)=bI n L++[.int .i64 (dg n L:Nat)]:=by simp [bI,List.range_succ]
theorem rA.uJ {w:World} {base e:Nat} {v:Value} {n L:Nat} (h:w.ownsRow base e 1 v L (bI n L)) (hn:n<BB ^ L):rA w.heap.size w v n L:=by
 rcases h.2 with ⟨rfl,rfl⟩ | ⟨g,cap,cur,rfl,hb,hg,h1,h2,h3,h4⟩
 ·exact ⟨none,0,rfl,Nat.le_refl _,by omega,hn,fun h=>absurd h (Nat.lt_irrefl _)⟩
 ·refine ⟨some ⟨g,0,none⟩,cap,rfl,by omega,by unfold maxLen at h2;omega,hn,fun _=>⟨g,0,rfl,?_,fun i hi=>?_⟩⟩
  ·exact (Array.getElem?_eq_some_iff.1 hg).1
  ·have:=h.cells (g:=g) rfl i (.int .i64 (dg n i:Nat)) (by simp [bI,hi]);have e:(⟨g,0,none⟩:Addr).add i=⟨g,0+i,none⟩:=by unfold Addr.add;split<;>simp_all
   rw [e] at this;exact this
theorem lT:(Tryz.prog.info? 3).map (fun i=>(i.zero,i.size,i.bytes))=some (some (.int .i64 0),1,8):=by kernel_rfl
theorem vF {n k:Nat} (h1:n<BB ^ k) (h2:k=0∨dg n (k-1)≠0):fT n k:=by
 refine ⟨h1,fun hk=>?_⟩;rcases h2 with h2 | h2
 ·omega
 ·by_cases hlt:n<BB ^ (k-1)
  ·exact absurd (bV hlt) h2
  ·omega
theorem MP {n k:Nat} (h1:n<BB ^ (k+1)) (h2:dg n k=0):n<BB ^ k:=by
 have:=mod_succ n k;rw [h2,Nat.mul_zero,Nat.add_zero,Nat.mod_eq_of_lt h1] at this;rw [this];exact Nat.mod_lt _ (pQ k)
def TrimP (n:Nat) (ao:Option Addr) (L cap:Nat) (w:World) (e:Ending) (w':World):Prop:=(∃k,k≤L∧e=.returned (.slice ao k cap)∧fT n k)∧w=w'
theorem OQ (B n L cap:Nat) (ao:Option Addr) (w:World) (h:rA B w (.slice ao L cap) n L):Calls Tryz.prog 99 #[.slice ao L cap] w (TrimP n ao L cap w):=by
 obtain ⟨ao',cap',he,c1,c2,hn,hx⟩:=id h;injection he with he1 he2 he3;subst he1 he3;have HX:=ah hx;have HN:=ah hn;clear h hx hn;go_enter Tryz.func99,Tryz.ntmps99;go_wp2
 go_loop [3] (fun c=>∃k:Nat,k≤L∧c=.int .i64 k∧Hid (n<BB ^ k)) (fun c=>(intOf c).toNat)
 case atStart=>exact ⟨L,Nat.le_refl _,rfl,HN⟩
 case round=>
  obtain ⟨k,hk,rfl,hnk⟩:=hrel;by_cases h0:k=0
  ·subst h0;go_wp2
   go_ret;exact ⟨⟨0,Nat.zero_le _,rfl,vF hnk.out (.inl rfl)⟩,rfl⟩
  ·obtain ⟨b,off,rfl,hb,hc⟩:=HX.out (by omega);obtain ⟨k,rfl⟩:∃j,k=j+1:=⟨k-1,by omega⟩;have hc0:=hc k (by omega);have e1:((k+1:Nat):Int)-1=(k:Nat):=by omega
   have hcst:0<((k+1:Nat):Int):=by omega
   have HT:=ah (fun h=>MP (k:=k) hnk.out h);have HU:=ah (fun (h:dg n k≠0)=>vF (k:=k+1) hnk.out (.inr h));clear hc h0;generalize dg n k=d at *;by_cases hd:d=0
   ·subst hd;go_wp2
    go_round
    case rel=>exact ⟨k,by omega,by go_num,ah (HT.out rfl)⟩
    case measure=>simp [intOf]
   ·go_wp2
    go_ret;exact ⟨⟨k+1,hk,rfl,HU.out hd⟩,rfl⟩
theorem Gt {n L k:Nat} (h:k≤L):(bI n L).take k=bI n k:=by
 unfold bI;rw [←List.map_take,List.take_range,Nat.min_eq_left h]
theorem Mt {w:World} {base e:Nat} {ao:Option Addr} {n k cap:Nat} {xs:List Value} (h:w.ownsRow base e 1 (.slice ao n cap) n xs) (hk:k≤n):w.ownsRow base e 1 (.slice ao k cap) k (xs.take k):=by
 have hl:=h.1;rcases h.2 with ⟨h',rfl⟩ | ⟨g,cap',cur,h',hb,hg,h1,h2,h3,h4⟩
 ·injection h' with h1 h2 h3;subst h1 h3;obtain rfl:k=0:=by omega
  exact ⟨by simp,.inl ⟨rfl,by simp⟩⟩
 ·injection h' with e1 e2 e3;subst e1 e3;refine ⟨by simp at hl ⊢;omega,.inr ⟨g,_,cur,rfl,hb,hg,by omega,h2,h3,?_⟩⟩;rw [←h4,List.take_take];congr 1
  omega
def NR (base n:Nat) (w:World) (e:Ending) (w':World):Prop:=∃v L,e=.returned v∧fT n L∧w'.ownsRow base 3 1 v L (bI n L)∧Below base w w'
def TrimO (base n:Nat) (w:World) (e:Ending) (w':World):Prop:=(∃v L,e=.returned v∧fT n L∧w.ownsRow base 3 1 v L (bI n L))∧w=w'
theorem bK {w:World} {base:Nat} {e:TypeId} {size:Nat} {v:Value} {n:Nat} {xs:List Value} (h:w.ownsRow base e size v n xs):∃ao cap,v=.slice ao n cap:=by
 rcases h.2 with ⟨rfl,rfl⟩ | ⟨g,cap,cur,rfl,_⟩
 ·exact ⟨_,_,rfl⟩
 ·exact ⟨_,_,rfl⟩
theorem mY (base n L:Nat) (v:Value) (w:World) (h:w.ownsRow base 3 1 v L (bI n L)) (hn:n<BB ^ L):Calls Tryz.prog 99 #[v] w (TrimO base n w):=by
 obtain ⟨ao,cap,rfl⟩:=bK h;refine (OQ w.heap.size n L cap ao w (rA.uJ h hn)).mono ?_;rintro e w' ⟨⟨k,hk,rfl,hl⟩,rfl⟩;refine ⟨⟨_,k,rfl,hl,?_⟩,rfl⟩;have:=Mt h hk;rwa [Gt hk] at this
theorem ze (m d:Nat):Int.tmod (m:Int) (d:Int)=((m % d:Nat):Int):=(Int.ofNat_tmod m d).symm
theorem zk (m d:Nat):Int.tdiv (m:Int) (d:Int)=((m / d:Nat):Int):=(Int.ofNat_tdiv m d).symm
theorem jK (w:World) (x:Int) (T:TypeId) (fz:Nat×Nat) (j:Nat) (u:Value) (h:[Value.int .i64 x][j]?=some u):(w.alloc (.cells #[.int .i64 x] T fz)).cell? ((⟨w.heap.size,0,none⟩:Addr).add j)=some u:=by
 match j,h with
 | 0,h=>
  simp at h;subst h;exact World.cell?_alloc_mark w _ T fz 0
theorem jM (x:Int):∀u∈[Value.int .i64 x],u.oneCell'=true:=by
 intro u hu;simp at hu;subst hu;rfl
theorem JG {w wr w2:World} {v:Value} {e n:Nat} {xs:List Value} {o:Obj} (hb:Below w.heap.size w wr) (ho:wr.ownsRow w.heap.size e 1 v n xs) (hg:(wr.alloc o).grownBy w2 v.ownBlock) (hs:w.heap.size≤wr.heap.size):Below w.heap.size w w2:=
 (hb.alloc hs o).grown hg (by simp;omega) fun k hk=>(ho.lt k hk).1
theorem qN_dg (n k:Nat):bI n (k+1)=bI n k++[.int .i64 ((qN n k % 1000000000:Nat):Int)]:=sw n k
theorem BB20:9223372036854775807<BB ^ 20:=by unfold BB;decide
theorem qN_20 {n:Nat} (h:n≤9223372036854775807):qN n 20=0:=Nat.div_eq_of_lt (Nat.lt_of_le_of_lt h BB20)
theorem DW {n k:Nat} (h:qN n k=0) (hz:k=0∨qN n (k-1)≠0):fT n k:=by
 refine ⟨qN_lt h,fun hk0=>?_⟩;rcases hz with h | h
 ·omega
 ·by_cases hlt:n<BB ^ (k-1)
  ·exact absurd (Nat.div_eq_of_lt hlt) h
  ·omega
theorem LB {m m2:Nat} (h:wrap64 ((m:Int) / 1000000000)=(m:Int) / 1000000000) (hv:m / 1000000000=m2) :
  Value.int .i64 (wrap64 ((m:Int) / 1000000000))=Value.int .i64 (m2:Int):=by
 rw [h,←hv];exact congrArg _ (by omega)
theorem Ik {m m2:Nat} (h:wrap64 ((m:Int) / 1000000000)=(m:Int) / 1000000000) (hv:m / 1000000000=m2) (hm:m≠0) :
  (intOf (Value.int .i64 (wrap64 ((m:Int) / 1000000000)))).toNat<(intOf (Value.int .i64 (m:Int))).toNat:=by
 rw [h];simp only [intOf];omega
theorem Gq {m:Nat} (h:m≤9223372036854775807):wrap64 ((m:Int) / 1000000000)=(m:Int) / 1000000000:=IntWalk.wrap64_in _ ⟨by omega,by omega⟩
theorem mod_val (m:Nat):(m:Int) % 1000000000=((m % 1000000000:Nat):Int):=by omega
theorem kZ (n:Nat) (w:World) (h:n≤9223372036854775807):Calls Tryz.prog 77 #[.int .i64 n] w (NR w.heap.size n w):=by
 have H:=ah h;clear h;obtain ⟨i0,hi,hz0,hz1,hz2⟩:=info_parts lT;have Hi:=ah hi;have Bu:=ah hz0;have Bt:=ah hz1;have Br:=ah hz2;clear hi hz0 hz1 hz2;go_enter Tryz.func77,Tryz.ntmps77;go_wp2
 go_loopw [0,3] (fun x v wr=>∃k:Nat,k≤20∧x=.int .i64 (qN n k:Nat)∧Hid (k=0∨qN n (k-1)≠0)∧wr.ownsRow w.heap.size 3 1 v k (bI n k)∧Below w.heap.size w wr) (fun x _ _=>(intOf x).toNat)
 case atStart=>exact ⟨0,by omega,by rw [vk],ah (.inl rfl),by simpa [bI] using World.ownsRow_nil _ _ _ _,Below.refl _ _⟩
 case round=>
  rename_i wr
  obtain ⟨k,hk,rfl,hnz,hown,hb⟩:=hrel;have HO:=ah hown;have HB:=ah hb;have hsz:=hb.size;have HM:=ah (qN_dg n k);have HV:=ah (Pt n k);have HZ:=ah (fun h:qN n k=0=>DW h hnz.out);have HK:=ah (fun e:k=20=>(show qN n k=0 by rw [e];exact qN_20 H.out));have HW:=ah True.intro;have HB9:=ah (Nat.le_trans (qN_le n k) H.out);obtain ⟨ao,cap,rfl⟩:=bK hown;have HNZ:=ah (fun h:qN n k≠0=>(show k+1=0∨qN n (k+1-1)≠0 from .inr h));clear hown hb hnz;generalize hm2:qN n (k+1)=m2 at *;generalize hm:qN n k=m at *;have HM2:=ah hm2;clear hm2 hm;by_cases h0:m=0
  ·have HL:=ah (HZ.out h0);subst h0;clear HZ HW HNZ HK HM HV;go_wp2
   go_ret;exact ⟨_,k,rfl,HL.out,HO.out,HB.out⟩
  ·have hpos:0<(m:Int):=by omega
   have Gd:k<20:=by
    by_cases he:k=20
    ·exact absurd (HK.out he) h0
    ·omega
   have HNZ2:=ah (HNZ.out h0);have ht:Int.tmod (m:Int) 1000000000=((m % 1000000000:Nat):Int):=ze m 1000000000
   have hq:Int.tdiv (m:Int) 1000000000=(m2:Int):=by
    have:=zk m 1000000000;rw [HV.out] at this;exact this
   have H0:=ah h0;clear HNZ HK HZ HW;go_wp2_with (at_builtin;refine wpList_append_own _ rfl _ _ 97 rfl w.heap.size 3 i0 (.int .i64 0) 1 8 Tryz.underlying97 Hi.out Bu.out Bt.out Br.out rfl (by decide) _ _ _ rfl (HO.out.alloc _) ⟨wr.heap.size,0,none⟩ 1 1 [.int .i64 ((m % 1000000000:Nat):Int)] rfl rfl ?c1 (jM _) ?c3 ?c4 ?c5 ?_)
   case c1=>rw [←mod_val m];exact jK wr _ _ _
   case c3=>unfold maxLen;omega
   case c4=>omega
   case c5=>simp;omega
   intro v' w2 hown2 hgrow _;rw [mod_val m,←HM.out] at hown2;obtain ⟨Ry,vc2,hv2⟩:=bK hown2;have HB2:=ah (JG HB.out HO.out hgrow hsz);rw [hv2] at hown2 ⊢;have nT:=ah hown2;clear hv2 hown2 hgrow HM HO ht hq;go_wp2
   go_roundw
   case rel=>exact ⟨k+1,by omega,by rw [HM2.out];exact LB (Gq HB9.out) HV.out,HNZ2,nT.out,HB2.out⟩
   case measure=>exact Ik (Gq HB9.out) HV.out H0.out
end Go.Proofs.YtopmdeefcjdadaaGreat
