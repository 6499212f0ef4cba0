import Derived.Test.YtopmdeefcjdadaaGreatT42M00
import Derived.Test.YtopmdeefcjdadaaGreatT42M02
import Derived.Deep.RegionHeld3
import Derived.Deep.QuietTactic
import Derived.BigQuiet
import Derived.Lib.SliceRun
import Derived.Laws.IdiomCopy
import Derived.Laws.OwnMore
import Derived.Deep.RegionWith
import Derived.Deep.DeepCutAuto
import Derived.Test.YtopmdeefcjdadaaGreatT42M03
import Derived.Test.YtopmdeefcjdadaaGreatT42M26
import Derived.Test.YtopmdeefcjdadaaGreatT42M10
import Derived.Test.YtopmdeefcjdadaaGreatT42M01
import Derived.Laws.AppendOwn
import Derived.Lib.AppendZerosOnto
import Derived.Lib.Overlaps
import Derived.OwnWalk
import Derived.Test.YtopmdeefcjdadaaGreatT42M18
import Derived.Test.YtopmdeefcjdadaaGreatT42M16
import Derived.Test.YtopmdeefcjdadaaGreatT42M17
set_option linter.unusedVariables false
set_option linter.unusedSimpArgs false
set_option maxRecDepth 100000
set_option maxHeartbeats 32000000
namespace Go.Proofs.YtopmdeefcjdadaaGreat
open Go.RowKit
theorem Jw (aK low aD aA ay ak aB bP aN aQ:Int) (aI rel:Bool) (sv kv:Value) (ro:Option Addr) (bD:Nat) (aJ:List (Int×Int)) (t:Int) (w:World) (hx:Av w.heap.size w (.slice ro aJ.length bD) aJ) (hok:jO aB aJ) (hl:aJ.length≤50) (s0:0≤aB) (s1:aB≤36000000) (t0:0≤t) (t1:t≤36000000) :
  Calls Tryz.prog 40 #[(.agg #[.int .i64 aK,.int .i64 low,.int .i64 aD,.int .i64 aA,.int .i64 ay,.int .i64 ak,.bool aI,.bool rel,sv,kv,.int .i64 aB,.slice ro aJ.length bD,.int .i64 bP,.int .i64 aN,.int .i64 aQ]),.int .i64 t] w fun e w'=>e=.returned (.int .i64 (mo aB aJ t))∧Below w.heap.size w w':=by
 have HG:=ah (sW hx);have Ev:=ah (rO hok);clear hx
 have HE:Hid (∀k s p,k≤aJ.length→(∀h:k<aJ.length,t≤aJ[k].1)→kN t s p (aJ.drop k)=(t-s)*p):=ah (by
  intro k s p hk h;by_cases hlt:k<aJ.length
  ·rw [List.drop_eq_getElem_cons hlt];simp only [kN];rw [if_pos (h hlt)]
  ·rw [List.drop_of_length_le (by omega)];rfl)
 have HN:Hid (∀k s p (h:k<aJ.length),aJ[k].1<t→kN t s p (aJ.drop k)=(aJ[k].1-s)*p+kN t aJ[k].1 aJ[k].2 (aJ.drop (k+1))):=ah (by
  intro k s p h hlt;rw [List.drop_eq_getElem_cons h];simp only [kN];rw [if_neg (by omega)])
 have pR:=ah (show t≤aB→mo aB aJ t=0 from fun h=>if_pos h);have yC:=ah (show ¬t≤aB→mo aB aJ t=kN t aB 100 aJ from fun h=>if_neg h);have KC:=ah (sU w (.int .i64 aK) (.int .i64 low) (.int .i64 aD) (.int .i64 aA) (.int .i64 ay) (.int .i64 ak) (.bool aI) (.bool rel) (sv) (kv) (.int .i64 aB) (.slice ro aJ.length bD) (.int .i64 bP) (.int .i64 aN) (.int .i64 aQ) 32);generalize mo aB aJ t=RES at *;go_enter Tryz.func40,Tryz.ntmps40;go_wp2_with fail;go_quiet (fail)
 go_wp2_with fail;go_loopw [5,6,7,15] (fun a s p i wr=>∃(k:Nat) (A S P:Int),k≤aJ.length∧a=.int .i64 A∧s=.int .i64 S∧p=.int .i64 P∧i=.int .i64 k∧Hid (A+kN t S P (aJ.drop k)=kN t aB 100 aJ)∧aB≤S∧S≤36000000∧0≤P∧P≤1000∧0≤A∧A≤1000*(S-aB)∧Hid (S=aB∨S<t)∧Hid (∀h:k<aJ.length,S≤aJ[k].1)∧Hid (Below (w.heap.size+1) (w.alloc (.cells #[.int .i64 aK,.int .i64 low,.int .i64 aD,.int .i64 aA,.int .i64 ay,.int .i64 ak,.bool aI,.bool rel,sv,kv,.int .i64 aB,.slice ro aJ.length bD,.int .i64 bP,.int .i64 aN,.int .i64 aQ] 32)) wr)) (fun _ _ _ i _=>aJ.length-(intOf i).toNat)
 case atStart=>exact ⟨0,0,aB,100,Nat.zero_le _,rfl,rfl,rfl,rfl,ah (by simp),by omega,by omega,by omega,by omega,by omega,by omega,ah (.inl rfl),ah (fun h=>(Ev.out 0 h).1),ah (dz (Below.refl _ _) _)⟩
 case round=>
  obtain ⟨k,A,S,P,hk,rfl,rfl,rfl,rfl,HR,r1,r2,r3,r4,r5,r6,HST,HSR,bA⟩:=hrel;obtain ⟨hB,hz,q0,q1,q2,q3,q4,q5,q6,q7,q8,q9,kS,l7,nk,ow,ou⟩:=KC.out _ bA.out;by_cases hlt:k<aJ.length
  ·obtain ⟨b,off,rfl,hbb,hc⟩:=HG.out k hlt;obtain ⟨d0,d1⟩:=hc _ hB;have hbr:=Nat.lt_of_lt_of_le hbb hB.size;obtain ⟨g1,g2,g3,g4,g5⟩:=Ev.out k hlt;have EG:=ah (HE.out k S P hk);have HLT:=ah (HN.out k S P hlt);have hSR:=HSR.out hlt;have qJ:Hid (∀h:k+1<aJ.length,aJ[k].1≤aJ[k+1].1):=ah (fun h=>Int.le_of_lt ((Ev.out (k+1) h).2.2.2.2 k (by omega)));have pU:=ah hB;clear hB hc g5 HSR;have EG:=ah (fun (hh:t≤aJ[k].1)=>EG.out (fun _=>hh));generalize aJ[k]=rk at *;obtain ⟨rt,rp⟩:=rk;simp only at *;by_cases hge:t≤rt
   ·have HF:=ah (EG.out hge);clear HLT EG;by_cases hts:t≤aB
    ·have HV:=ah (pR.out hts);go_wp2_with fail;go_ret;exact ⟨by rw [HV.out]<;>rfl,(KC.out _ (iL bA.out (by simp) _)).1⟩
    ·have hst:S≤t:=by have:=HST.out;omega
     have hm:=wW (a:=t-S) (p:=P) (by omega) (by omega) r3 r4;have HV:=ah (show RES=A+(t-S)*P by rw [yC.out (by omega),←HR.out,HF.out]);clear pR yC;go_wp2_with fail;go_ret;exact ⟨by rw [HV.out]<;>rfl,(KC.out _ (iL bA.out (by simp) _)).1⟩
   ·have HF:=ah (HLT.out (by omega));have hm:=wW (a:=rt-S) (p:=P) (by omega) (by omega) r3 r4;have hle:decide (t≤rt)=false:=by simpa using hge
    clear HLT EG;go_wp2_with fail;go_quiet (fail)
    go_wp2_with fail;go_roundw
    case rel=>exact ⟨k+1,A+(rt-S)*P,rt,rp,by omega,rfl,rfl,rfl,by go_num,ah (by have h1:=HR.out;have h2:=HF.out;omega),by omega,by omega,by omega,by omega,by omega,by omega,ah (.inr (by omega)),qJ,ah (dz (iL bA.out (by simp) _) _)⟩
    case measure=>simp [intOf];omega
  ·have HF:=ah (HE.out k S P hk (fun h=>absurd h hlt));have pU:=ah hB;clear hB;by_cases hts:t≤aB
   ·have HV:=ah (pR.out hts);go_wp2_with fail;go_ret;exact ⟨by rw [HV.out]<;>rfl,pU.out⟩
   ·have hst:S≤t:=by have:=HST.out;omega
    have hm:=wW (a:=t-S) (p:=P) (by omega) (by omega) r3 r4;have HV:=ah (show RES=A+(t-S)*P by rw [yC.out (by omega),←HR.out,HF.out]);clear pR yC;go_wp2_with fail;go_ret;exact ⟨by rw [HV.out]<;>rfl,pU.out⟩
theorem clkL_at (t p:Int) (l:List (Int×Int)) (h:∀r∈l,t≤r.1):kN t t p l=0:=by
 cases l with
 | nil=>simp [kN]
 | cons r l=>simp [kN,h r (by simp)]
theorem Dx (aK low aD aA ay ak aB bP aN aQ:Int) (aI rel:Bool) (sv kv:Value) (ro:Option Addr) (bD:Nat) (aJ:List (Int×Int)) (t:Int) (w:World) (hx:Av w.heap.size w (.slice ro aJ.length bD) aJ) (hok:jO aB aJ) (hl:aJ.length≤50) (s0:0≤aB) (s1:aB≤36000000) (t0:0≤t) (t1:t≤36000000) (hts:t≤aB) :
  Calls Tryz.prog 46 #[(.agg #[.int .i64 aK,.int .i64 low,.int .i64 aD,.int .i64 aA,.int .i64 ay,.int .i64 ak,.bool aI,.bool rel,sv,kv,.int .i64 aB,.slice ro aJ.length bD,.int .i64 bP,.int .i64 aN,.int .i64 aQ]),.int .i64 t] w fun e w'=>e=.returned (.int .i64 (mo aB aJ t))∧Below w.heap.size w w':=by
 have HG:=ah (sW hx);have Ev:=ah (rO hok);clear hx;have pR:=ah (show mo aB aJ t=0 from if_pos hts);generalize mo aB aJ t=RES at *;have KC:=ah (sU w (.int .i64 aK) (.int .i64 low) (.int .i64 aD) (.int .i64 aA) (.int .i64 ay) (.int .i64 ak) (.bool aI) (.bool rel) (sv) (kv) (.int .i64 aB) (.slice ro aJ.length bD) (.int .i64 bP) (.int .i64 aN) (.int .i64 aQ) 32);go_enter Tryz.func46,Tryz.ntmps46;go_wp2_with fail;go_quiet (fail)
 go_wp2_with fail;go_loopw [5,6,7,16] (fun a s p i wr=>∃(k:Nat) (P:Int),k≤aJ.length∧a=.int .i64 0∧s=.int .i64 aB∧p=.int .i64 P∧i=.int .i64 k∧0≤P∧P≤1000∧Hid (Below (w.heap.size+1) (w.alloc (.cells #[.int .i64 aK,.int .i64 low,.int .i64 aD,.int .i64 aA,.int .i64 ay,.int .i64 ak,.bool aI,.bool rel,sv,kv,.int .i64 aB,.slice ro aJ.length bD,.int .i64 bP,.int .i64 aN,.int .i64 aQ] 32)) wr)) (fun _ _ _ i _=>aJ.length-(intOf i).toNat)
 case atStart=>exact ⟨0,100,Nat.zero_le _,rfl,rfl,rfl,rfl,by omega,by omega,ah (dz (Below.refl _ _) _)⟩
 case round=>
  obtain ⟨k,P,hk,rfl,rfl,rfl,rfl,r3,r4,bA⟩:=hrel;obtain ⟨hB,hz,q0,q1,q2,q3,q4,q5,q6,q7,q8,q9,kS,l7,nk,ow,ou⟩:=KC.out _ bA.out;by_cases hlt:k<aJ.length
  ·obtain ⟨b,off,rfl,hbb,hc⟩:=HG.out k hlt;obtain ⟨d0,d1⟩:=hc _ hB;have hbr:=Nat.lt_of_lt_of_le hbb hB.size;obtain ⟨g1,g2,g3,g4,g5⟩:=Ev.out k hlt;have pU:=ah hB;clear hB hc g5;generalize aJ[k]=rk at *;obtain ⟨rt,rp⟩:=rk;simp only at *;have z1:(aB-aB)*P=0:=by rw [Int.sub_self,Int.zero_mul]
   by_cases hgt:t<rt
   ·have mm1:min rt t=t:=by omega
    have mm2:max aB t=aB:=by omega
    go_wp2_with fail;all_goals first | omega | skip
    all_goals go_quiet (fail)
    all_goals go_wp2_with fail
    all_goals first | omega | skip
    all_goals go_ret
    all_goals exact ⟨by rw [pR.out];first | rfl | (congr 2;omega),dz (KC.out _ (iL bA.out (by simp) _)).1 _⟩
   ·have mm1:min rt t=rt:=by omega
    have mm2:max aB rt=aB:=by omega
    go_wp2_with fail;all_goals first | omega | skip
    all_goals go_quiet (fail)
    all_goals go_wp2_with fail
    all_goals first | omega | skip
    all_goals go_roundw
    case rel=>exact ⟨k+1,rp,by omega,by first | rfl | (congr 1;omega),by first | rfl | (congr 1;omega),rfl,by go_num,by omega,by omega,ah (dz (iL bA.out (by simp) _) _)⟩
    case measure=>simp [intOf];omega
  ·have pU:=ah hB;clear hB;have z1:(0:Int)*P=0:=Int.zero_mul _;have mm3:max 0 (t-aB)=0:=by omega
   go_wp2_with fail;all_goals first | omega | skip
   all_goals go_ret
   all_goals exact ⟨by rw [pR.out];first | rfl | (congr 2;omega),pU.out⟩
theorem Fg (aK low aD aA ay ak aB bP aN aQ:Int) (aI rel:Bool) (sv kv:Value) (ro:Option Addr) (bD:Nat) (aJ:List (Int×Int)) (t:Int) (w:World) (hx:Av w.heap.size w (.slice ro aJ.length bD) aJ) (hok:jO aB aJ) (hl:aJ.length≤50) (s0:0≤aB) (s1:aB≤36000000) (t0:0≤t) (t1:t≤36000000) (hts:aB<t) :
  Calls Tryz.prog 46 #[(.agg #[.int .i64 aK,.int .i64 low,.int .i64 aD,.int .i64 aA,.int .i64 ay,.int .i64 ak,.bool aI,.bool rel,sv,kv,.int .i64 aB,.slice ro aJ.length bD,.int .i64 bP,.int .i64 aN,.int .i64 aQ]),.int .i64 t] w fun e w'=>e=.returned (.int .i64 (mo aB aJ t))∧Below w.heap.size w w':=by
 have HG:=ah (sW hx);have Ev:=ah (rO hok);clear hx;have pR:=ah (show mo aB aJ t=kN t aB 100 aJ from if_neg (by omega))
 have HE:Hid (∀k s p,k≤aJ.length→(∀h:k<aJ.length,t≤aJ[k].1)→kN t s p (aJ.drop k)=(t-s)*p):=ah (by
  intro k s p hk h;by_cases hlt:k<aJ.length
  ·rw [List.drop_eq_getElem_cons hlt];simp only [kN];rw [if_pos (h hlt)]
  ·rw [List.drop_of_length_le (by omega)];rfl)
 have HN:Hid (∀k s p (h:k<aJ.length),aJ[k].1<t→kN t s p (aJ.drop k)=(aJ[k].1-s)*p+kN t aJ[k].1 aJ[k].2 (aJ.drop (k+1))):=ah (by
  intro k s p h hlt;rw [List.drop_eq_getElem_cons h];simp only [kN];rw [if_neg (by omega)])
 have HZ:Hid (∀k p (h:k<aJ.length),aJ[k].1=t→kN t t p (aJ.drop (k+1))=0):=ah (by
  intro k p h he;refine clkL_at t p _ (fun r hr=>?_);obtain ⟨j,hj,e⟩:=List.mem_iff_getElem.1 hr;rw [List.length_drop] at hj;rw [List.getElem_drop] at e;have:=(Ev.out (k+1+j) (by omega)).2.2.2.2 k (by omega);rw [←e];omega)
 generalize mo aB aJ t=RES at *;have KC:=ah (sU w (.int .i64 aK) (.int .i64 low) (.int .i64 aD) (.int .i64 aA) (.int .i64 ay) (.int .i64 ak) (.bool aI) (.bool rel) (sv) (kv) (.int .i64 aB) (.slice ro aJ.length bD) (.int .i64 bP) (.int .i64 aN) (.int .i64 aQ) 32);go_enter Tryz.func46,Tryz.ntmps46;go_wp2_with fail;go_quiet (fail)
 go_wp2_with fail;go_loopw [5,6,7,16] (fun a s p i wr=>∃(k:Nat) (A S P:Int),k≤aJ.length∧a=.int .i64 A∧s=.int .i64 S∧p=.int .i64 P∧i=.int .i64 k∧Hid (A+kN t S P (aJ.drop k)=kN t aB 100 aJ)∧aB≤S∧S≤t∧0≤P∧P≤1000∧0≤A∧A≤1000*(S-aB)∧Hid (∀h:k<aJ.length,S≤aJ[k].1)∧Hid (Below (w.heap.size+1) (w.alloc (.cells #[.int .i64 aK,.int .i64 low,.int .i64 aD,.int .i64 aA,.int .i64 ay,.int .i64 ak,.bool aI,.bool rel,sv,kv,.int .i64 aB,.slice ro aJ.length bD,.int .i64 bP,.int .i64 aN,.int .i64 aQ] 32)) wr)) (fun _ _ _ i _=>aJ.length-(intOf i).toNat)
 case atStart=>exact ⟨0,0,aB,100,Nat.zero_le _,rfl,rfl,rfl,rfl,ah (by simp),by omega,by omega,by omega,by omega,by omega,by omega,ah (fun h=>(Ev.out 0 h).1),ah (dz (Below.refl _ _) _)⟩
 case round=>
  obtain ⟨k,A,S,P,hk,rfl,rfl,rfl,rfl,HR,r1,r2,r3,r4,r5,r6,HSR,bA⟩:=hrel;obtain ⟨hB,hz,q0,q1,q2,q3,q4,q5,q6,q7,q8,q9,kS,l7,nk,ow,ou⟩:=KC.out _ bA.out;by_cases hlt:k<aJ.length
  ·obtain ⟨b,off,rfl,hbb,hc⟩:=HG.out k hlt;obtain ⟨d0,d1⟩:=hc _ hB;have hbr:=Nat.lt_of_lt_of_le hbb hB.size;obtain ⟨g1,g2,g3,g4,g5⟩:=Ev.out k hlt;have EG:=ah (HE.out k S P hk);have HLT:=ah (HN.out k S P hlt);have HEZ:=ah (fun p=>HZ.out k p hlt);have hSR:=HSR.out hlt;have qJ:Hid (∀h:k+1<aJ.length,aJ[k].1≤aJ[k+1].1):=ah (fun h=>Int.le_of_lt ((Ev.out (k+1) h).2.2.2.2 k (by omega)));have pU:=ah hB;clear hB hc g5 HSR;have EG:=ah (fun (hh:t≤aJ[k].1)=>EG.out (fun _=>hh));generalize aJ[k]=rk at *;obtain ⟨rt,rp⟩:=rk;simp only at *;by_cases hgt:t<rt
   ·have hm:=wW (a:=t-S) (p:=P) (by omega) (by omega) r3 r4;have HV:=ah (show RES=A+(t-S)*P by rw [pR.out,←HR.out,EG.out (by omega)]);clear HLT HEZ EG pR;by_cases hS:S=t
    ·have yC:=ah (show RES=A by rw [HV.out,hS,Int.sub_self,Int.zero_mul,Int.add_zero]);subst hS;clear HV hm;have z0:(S-S)*P=0:=by rw [Int.sub_self,Int.zero_mul]
     have mm1:min rt S=S:=by omega
     go_wp2_with fail;go_quiet (fail)
     go_wp2_with fail;go_ret;exact ⟨by rw [yC.out]<;>rfl,dz (KC.out _ (iL bA.out (by simp) _)).1 _⟩
    ·have hSt:S<t:=by omega
     have hw1:wrap64 ((t-S)*P)=(t-S)*P:=IntWalk.wrap64_in _ (by omega);have hw2:wrap64 (A+(t-S)*P)=A+(t-S)*P:=IntWalk.wrap64_in _ (by omega);clear hS;have mm1:min rt t=t:=by omega
     have mm2:max S t=t:=by omega
     go_wp2_with fail;go_quiet (fail)
     go_wp2_with fail;go_ret;exact ⟨by rw [HV.out]<;>rfl,dz (KC.out _ (iL bA.out (by simp) _)).1 _⟩
   ·have hm:=wW (a:=rt-S) (p:=P) (by omega) (by omega) r3 r4
    have vT:=ah (show (A+(rt-S)*P)+kN t rt rp (aJ.drop (k+1))=kN t aB 100 aJ by
     by_cases he:rt=t
     ·rw [he,HEZ.out rp he];have h1:=HR.out;rw [EG.out (by omega)] at h1;omega
     ·have h1:=HR.out;have h2:=HLT.out (by omega);omega)
    clear HLT EG HEZ;by_cases hS:S=rt
    ·have HN3:=ah (show A+kN t rt rp (aJ.drop (k+1))=kN t aB 100 aJ by have h:=vT.out;rw [hS,Int.sub_self,Int.zero_mul,Int.add_zero] at h;exact h);subst hS;clear vT hm;have z0:(S-S)*P=0:=by rw [Int.sub_self,Int.zero_mul]
     have mm1:min S t=S:=by omega
     go_wp2_with fail;go_quiet (fail)
     go_wp2_with fail;go_roundw
     case rel=>exact ⟨k+1,A,S,rp,by omega,rfl,rfl,rfl,by go_num,HN3,by omega,by omega,by omega,by omega,by omega,by omega,qJ,ah (dz (iL bA.out (by simp) _) _)⟩
     case measure=>simp [intOf];omega
    ·have hSt:S<rt:=by omega
     have hw1:wrap64 ((rt-S)*P)=(rt-S)*P:=IntWalk.wrap64_in _ (by omega);have hw2:wrap64 (A+(rt-S)*P)=A+(rt-S)*P:=IntWalk.wrap64_in _ (by omega);clear hS;have mm1:min rt t=rt:=by omega
     have mm2:max S rt=rt:=by omega
     go_wp2_with fail;go_quiet (fail)
     go_wp2_with fail;go_roundw
     case rel=>clear hw1 hw2;exact ⟨k+1,A+(rt-S)*P,rt,rp,by omega,rfl,rfl,rfl,by go_num,vT,by omega,by omega,by omega,by omega,by omega,by omega,qJ,ah (dz (iL bA.out (by simp) _) _)⟩
     case measure=>clear hw1 hw2;simp [intOf];omega
  ·have HF:=ah (HE.out k S P hk (fun h=>absurd h hlt));have pU:=ah hB;clear hB;have hm:=wW (a:=t-S) (p:=P) (by omega) (by omega) r3 r4;have HV:=ah (show RES=A+(t-S)*P by rw [pR.out,←HR.out,HF.out]);clear pR;by_cases hS:S=t
   ·have yC:=ah (show RES=A by rw [HV.out,hS,Int.sub_self,Int.zero_mul,Int.add_zero]);subst hS;clear HV hm HF;have z1:(0:Int)*P=0:=Int.zero_mul _;go_wp2_with fail;go_ret;exact ⟨by rw [yC.out]<;>rfl,pU.out⟩
   ·have hSt:S<t:=by omega
    have hw1:wrap64 ((t-S)*P)=(t-S)*P:=IntWalk.wrap64_in _ (by omega);have hw2:wrap64 (A+(t-S)*P)=A+(t-S)*P:=IntWalk.wrap64_in _ (by omega);clear hS;have mm3:max 0 (t-S)=t-S:=by omega
    go_wp2_with fail;go_ret;exact ⟨by rw [HV.out]<;>rfl,pU.out⟩
theorem Dq (B:Nat) (sv:Value) (l:List dM) (n:Int) (nm:ByteArray) (df:Int) (w:World) (hBw:B≤w.heap.size) (h:lH B w sv l) :
  Calls Tryz.prog 49 #[sv,.agg #[.int .i64 n,.string nm],.int .i64 df] w fun e w'=>e=.returned (.int .i64 (I5 l n nm df))∧Below w.heap.size w w':=by
 have HG:=ah (lH.get h)
 have hl:l.length≤9223372036854775807:=by
  have h:=aW.len h;unfold maxLen at h;omega
 obtain ⟨ao,cap,rfl,_⟩:=aW.shape h;have HV:Hid (∀o,l.find? (isK (n,nm))=o→I5 l n nm df=(o.map dM.lv).getD df):=ah (fun o h=>by unfold I5;rw [h]);have HTK0:=ah (fun k (h:k<l.length)=>List.take_succ_eq_append_getElem h);generalize I5 l n nm df=RES at *;clear h;go_enter Tryz.func49,Tryz.ntmps49;go_wp2_with fail;go_loopw [11] (fun i wr=>∃k:Nat,k≤l.length∧i=.int .i64 k∧Hid ((l.take k).find? (isK (n,nm))=none)∧Hid (Below (w.heap.size+1) (w.alloc (.cells #[.int .i64 n,.string nm] 40)) wr)) (fun i _=>l.length-(intOf i).toNat)
 case atStart=>exact ⟨0,Nat.zero_le _,rfl,ah (by simp),ah (Below.refl _ _)⟩
 case round=>
  obtain ⟨k,hk,rfl,HN,HB⟩:=hrel;have hz:=HB.out.size;simp at hz;have HW:=ah (show Below w.heap.size w wr from ((Below.refl _ _).alloc (Nat.le_refl _) _).trans (HB.out.mono (by omega)));have b0:wr.cell? ⟨w.heap.size,0,none⟩=some (.int .i64 n):=(HB.out.cell (p:=⟨w.heap.size,0,none⟩) (by simp)).trans (by simp [go_sem]);have b1:wr.cell? ⟨w.heap.size,1,none⟩=some (.string nm):=(HB.out.cell (p:=⟨w.heap.size,1,none⟩) (by simp)).trans (by simp [go_sem]);by_cases hlt:k<l.length
  ·obtain ⟨b,off,cap',e0,hbb,_,hc⟩:=HG.out (by omega);injection e0 with e1 e2 e3;subst e1 e3;obtain ⟨d0,d1,d2⟩:=hc k hlt wr (HW.out.mono hBw);have hbr:b<wr.heap.size:=by omega
   have hsr:w.heap.size<wr.heap.size:=by omega
   have um:=ah (HTK0.out k hlt)
   have HTD:Hid (l.find? (isK (n,nm))=(l.drop k).find? (isK (n,nm))):=ah (by
    conv=>lhs;rw [←List.take_append_drop k l]
    rw [List.find?_append,HN.out];rfl)
   have HDR:=ah (List.drop_eq_getElem_cons hlt);clear hc;generalize l[k]=y at *;obtain ⟨su,sp,sl⟩:=y;simp only at d0 d1 d2;have dI:=ah (HB.out.alloc (by omega) (.cells #[.int .i64 su,.string sp,.int .i64 sl] 42));have HWX:=ah (HW.out.alloc HW.out.size (.cells #[.int .i64 su,.string sp,.int .i64 sl] 42));by_cases he:su=n∧sp=nm
   ·obtain ⟨e1,e2⟩:=he;subst e1;subst e2;have HR:=ah (HV.out (some ⟨su,sp,sl⟩) (by rw [HTD.out,HDR.out];exact List.find?_cons_of_pos (by simp [isK,dM.k])));clear HV HTD HDR um HTK0;go_wp2_with fail;go_ret;exact ⟨by rw [HR.out];rfl,HWX.out⟩
   ·have vT:Hid ((l.take (k+1)).find? (isK (n,nm))=none):=ah (by
     rw [um.out,List.find?_append,HN.out];simp [isK,dM.k];intro h1 h2;exact he ⟨h1,h2⟩)
    by_cases h1:su=n
    ·have h2:¬sp.toList=nm.toList:=fun h=>he ⟨h1,ByteArray.ext (Array.toList_inj.1 (by rw [←Lib.toList_data,←Lib.toList_data];exact h))⟩;have h3:(sp.toList==nm.toList)=false:=beq_eq_false_iff_ne.2 h2;subst h1;clear he HTD HDR um HTK0;go_wp2_with fail;go_roundw
     case rel=>exact ⟨k+1,by omega,by go_num,vT,dI⟩
     case measure=>simp [intOf];omega
    ·have h4:(su==n)=false:=by simpa using h1
     clear he HTD HDR um HTK0;go_wp2_with fail;go_roundw
     case rel=>exact ⟨k+1,by omega,by go_num,vT,dI⟩
     case measure=>simp [intOf];omega
  ·have HE:=ah (HV.out none (by have:=HN.out;rwa [List.take_of_length_le (by omega)] at this));go_wp2_with fail;go_ret;exact ⟨by rw [HE.out];rfl,HW.out⟩
theorem PE {w:World} {base base':Nat} {T:TypeId} {s:Nat} {v:Value} {n:Nat} {xs:List Value} (h:w.ownsRow base T s v n xs) (hb:base'≤base):w.ownsRow base' T s v n xs:=by
 refine ⟨h.1,?_⟩;rcases h.2 with h' | ⟨g,cap,cur,e1,h1,h2,h3⟩
 ·exact .inl h'
 ·exact .inr ⟨g,cap,cur,e1,Nat.le_trans hb h1,h2,h3⟩
theorem uY (g:Nat) (T:TypeId):∀(Z:List Value) (o:Nat) (w:World) (cur:Array Value),w.heap[g]?=some (.cells cur T (0,0))→o+Z.length≤cur.size→
  ∃cur',(w.setCells g o Z).heap[g]?=some (.cells cur' T (0,0))∧cur'.toList=cur.toList.take o++Z++cur.toList.drop (o+Z.length)
 | [],o,w,cur,h,hl=>⟨cur,h,by simp⟩
 | v::r,o,w,cur,h,hl=>by
  simp only [List.length_cons] at hl;obtain ⟨c,h1,h2⟩:=uY g T r (o+1) (w.setCell ⟨g,o,none⟩ v) (cur.setIfInBounds o v) (heap_setCell_same w g o cur T v h) (by simp;omega);refine ⟨c,h1,?_⟩;have ho:o<cur.toList.length:=by simp;omega
  have e1:(cur.toList.set o v).take (o+1)=cur.toList.take o++[v]:=by
   rw [List.take_succ_eq_append_getElem (by simpa using ho),List.take_set_of_le (Nat.le_refl o)];simp
  have e2:(cur.toList.set o v).drop (o+1+r.length)=cur.toList.drop (o+1+r.length):=List.drop_set_of_lt (by omega);rw [h2,Array.toList_setIfInBounds,e1,e2];simp only [List.length_cons,List.append_assoc,List.cons_append,List.nil_append];rw [show o+1+r.length=o+(r.length+1) by omega]
end Go.Proofs.YtopmdeefcjdadaaGreat
namespace Go.Proofs.YtopmdeefcjdadaaGreat
open Go.RowKit
open Go (info_parts)
theorem cu.put {base g cap:Nat} {w:World} {l:List dM} (h:cu base w (.slice (some ⟨g,0,none⟩) l.length cap) l) (k:Nat) (hk:k<l.length) (u:dM) :
  cu base (w.setCells g (k*3) (fH u)) (.slice (some ⟨g,0,none⟩) l.length cap) (l.set k u):=by
 unfold cu at *;obtain ⟨hx,hn | ⟨g',cap',cur,e1,hb,hg,hnc,hcm,hcs,hct⟩⟩:=h
 ·exact absurd hn.1 (by simp)
 ·injection e1 with e1 _ e2;injection e1 with e1;injection e1 with e1;subst e1 e2;have h1:l.length*3≤cap*3:=Nat.mul_le_mul_right _ hnc;obtain ⟨c,f1,f2⟩:=uY g _ (fH u) (k*3) w cur hg (by simp [fH];omega);have hl3:(fH u).length=3:=rfl
  have hs:c.size=cur.size:=by
   have:=congrArg List.length f2;simp only [List.length_append,hl3,List.length_take,List.length_drop,Array.length_toList] at this;omega
  have hlen:(l.set k u).length=l.length:=List.length_set;rw [hlen];refine ⟨by rw [vK fH 3 (fun _=>rfl),hlen],.inr ⟨g,cap,c,rfl,hb,f1,hnc,hcm,by omega,?_⟩⟩;have hA:(cur.toList.take (k*3)).length=k*3:=by rw [List.length_take,Array.length_toList];omega
  have a1:(cur.toList.take (k*3)).take (l.length*3)=cur.toList.take (k*3):=List.take_of_length_le (by rw [hA];omega);have a2:(fH u).take (l.length*3-k*3)=fH u:=List.take_of_length_le (by rw [hl3];omega);rw [f2,hl3,List.append_assoc,List.take_append,hA,List.take_append,hl3,a1,a2]
  have e3:cur.toList.take (k*3)=(l.take k).flatMap fH:=by
   rw [←Cr fH 3 (fun _=>rfl) l k (by omega),←hct,List.take_take,Nat.min_eq_left (by omega)]
  have e4:(cur.toList.drop (k*3+3)).take (l.length*3-k*3-3)=(l.drop (k+1)).flatMap fH:=by
   have e5:(l.flatMap fH).drop ((k+1)*3)=(l.drop (k+1)).flatMap fH:=by
    have h2:=congrArg (List.flatMap fH) (List.take_append_drop (k+1) l);rw [List.flatMap_append] at h2;rw [←h2,List.drop_left' (by rw [vK fH 3 (fun _=>rfl),List.length_take];omega)]
   rw [←e5,←hct,List.drop_take,show (k+1)*3=k*3+3 by omega,show l.length*3-(k*3+3)=l.length*3-k*3-3 by omega]
  rw [e3,e4,List.set_eq_take_append_cons_drop,if_pos hk,List.flatMap_append,List.flatMap_cons]
theorem Bn {w:World} {base c:Nat} {v:Value} {l:List dM} {y:dM} {ad:Addr} (ty:TypeId) (ho:cu base w v l)
  (hc:∀(j:Nat) u,(fH y)[j]?=some u→w.cell? (ad.add j)=some u) (hl:l.length≤10000000) (hb:base≤w.heap.size) :
  ∃v' w',(Builtin.append_ #[33,33] ty #[v,.slice (some ad) 1 c]).run Tryz.prog w=.ok v' w'∧cu base w' v' (l++[y])∧w.grownBy w' v.ownBlock∧∀g,v'.ownBlock=some g→v.ownBlock=some g∨w.heap.size≤g:=by
 obtain ⟨i0,hi,hz0,hz1,hz2⟩:=info_parts F8;have hone:∀u∈fH y,u.oneCell'=true:=by intro u hu;simp [fH] at hu;rcases hu with rfl | rfl | rfl<;>rfl
 have ho':w.ownsRow base 42 3 v l.length (l.flatMap fH):=ho;obtain ⟨v',w',hr,o1,o2,_⟩:=run_append_own (P:=Tryz.prog) w base 33 ty 42 i0 (.agg #[.int .i64 0,.string ⟨#[]⟩,.int .i64 0]) 3 32 Tryz.underlying33 hi hz0 hz1 hz2 rfl (by decide) v l.length (l.flatMap fH) ho' ad 1 c (fH y) rfl hc hone (by unfold maxLen;omega) (by omega) hb;refine ⟨v',w',hr,?_,o2,?_⟩
 ·unfold cu;rw [List.flatMap_append,List.length_append];simpa using o1
 ·rcases ho'.2 with ⟨rfl,hl0⟩ | ⟨g2,cap2,cur,rfl,hbg,hg,hnc,hcm,hcs,htake⟩
  ·obtain ⟨v2,w2,hr2,p1,_,_⟩:=run_append_own (P:=Tryz.prog) w w.heap.size 33 ty 42 i0 (.agg #[.int .i64 0,.string ⟨#[]⟩,.int .i64 0]) 3 32 Tryz.underlying33 hi hz0 hz1 hz2 rfl (by decide) (.slice none 0 0) 0 [] (World.ownsRow_nil w _ _ _) ad 1 c (fH y) rfl hc hone (by unfold maxLen;omega) (by omega) (Nat.le_refl _);rw [hr] at hr2;injection hr2 with hr2 hr3;subst hr2 hr3;intro g hg;exact .inr (World.ownsRow.lt p1 g hg).1
  ·by_cases hroom:l.length+1≤cap2
   ·obtain ⟨w2,hr2,_⟩:=run_append_fits (P:=Tryz.prog) w base 33 ty 42 i0 3 Tryz.underlying33 hi hz1 g2 l.length cap2 (l.flatMap fH) ho' ad 1 c (fH y) rfl hc hone hroom;rw [hr] at hr2;injection hr2 with hr2 hr3;subst hr2;intro g hg;exact .inl hg
   ·have holds:∀j u,(l.flatMap fH)[j]?=some u→w.cell? ((⟨g2,0,none⟩:Addr).add j)=some u:=ho'.cells (g:=g2) rfl;have hr2:=run_append_grow (P:=Tryz.prog) w 33 ty 42 i0 (.agg #[.int .i64 0,.string ⟨#[]⟩,.int .i64 0]) Tryz.underlying33 hi hz0 ⟨g2,0,none⟩ l.length cap2 (l.flatMap fH) (by rw [hz1];exact ho'.1) holds ad 1 c (fH y) (by rw [hz1];rfl) hc (by omega) (by omega) (growslice_fits (by omega) (by rw [hz2];omega));rw [hr] at hr2;injection hr2 with hr2 hr3;subst hr2;intro g hg;refine .inr ?_;simp [Value.ownBlock] at hg;omega
theorem uW {w:World} {ops:Array Oper} {rest:List Oper} {o:Oper} {a:Act} {Q:Exit→Act→World→Prop} (hgd:o.guard=none) (s x:Operand)
  (hop:o.op=.call { callee:=.builtin .append,args:=#[s,x],argTypes:=#[33,33] })
  (base c:Nat) (v:Value) (l:List dM) (y:dM) (ad:Addr) (hs:a.eval s=v) (hx:a.eval x=.slice (some ad) 1 c)
  (ho:cu base w v l) (hc:∀(j:Nat) u,(fH y)[j]?=some u→w.cell? (ad.add j)=some u) (hl:l.length≤10000000) (hb:base≤w.heap.size)
  (h:∀v' w',cu base w' v' (l++[y])→w.grownBy w' v.ownBlock→(∀g,v'.ownBlock=some g→v.ownBlock=some g∨w.heap.size≤g)→wpList Tryz.prog ops Q rest (a.put o.dst v') w'):wpList Tryz.prog ops Q (o::rest) a w:=by
 refine wpList_plain hgd fun K hK'=>?_;obtain ⟨v',w',hrun,r1,r2,r3⟩:=Bn (c:=c) o.type ho hc hl hb;unfold Oper.wp execOp;simp only [hop,resolve,invoke,builtin,Sem.run_bind,Sem.run_pure,Result.andThen_ok,List.map_toArray,List.map_cons,List.map_nil,hs,hx,hrun];exact hK' _ _ (h v' w' r1 r2 r3)
theorem cu.kept {base:Nat} {w w':World} {v:Value} {l:List dM} {r:Option Nat} (h:cu base w v l) (hg:w.grownBy w' r) (hne:v.ownBlock=none∨v.ownBlock≠r):cu base w' v l:=by
 unfold cu at *;refine World.ownsRow.kept h hg ?_;rcases h.2 with ⟨rfl,_⟩ | ⟨g2,cap2,cur,rfl,_⟩
 ·exact .inl rfl
 ·rcases hne with hne | hne
  ·simp [Value.ownBlock] at hne
  ·exact .inr hne
end Go.Proofs.YtopmdeefcjdadaaGreat
namespace Go.Proofs.YtopmdeefcjdadaaGreat
open Go.RowKit
theorem dZ.block {w:World} {mb m:Nat} {g:Int×ByteArray→Option Int} (h:dZ w mb m g):∃es clock,w.heap[mb]?=some (.map es clock):=by
 obtain ⟨n,f,_,h2,_⟩:=h;obtain ⟨D,⟨es,clock,h3,_⟩,_⟩:=h2.own;exact ⟨es,clock,h3⟩
theorem cu.block {base:Nat} {w:World} {v:Value} {l:List dM} {g:Nat} (h:cu base w v l) (hg:v.ownBlock=some g):∃cs fz,w.heap[g]?=some (.cells cs 42 fz):=by
 rcases h.2 with ⟨rfl,_⟩ | ⟨g',cap,cur,rfl,_,h1,_⟩
 ·simp [Value.ownBlock] at hg
 ·simp [Value.ownBlock] at hg;subst hg;exact ⟨_,_,h1⟩
theorem dZ.own {base:Nat} {w w':World} {mb m:Nat} {g:Int×ByteArray→Option Int} {v:Value} {l:List dM} (h:dZ w mb m g) (ho:cu base w v l) (hg:w.grownBy w' v.ownBlock):dZ w' mb m g:=by
 refine h.same (hg.block mb h.lt ?_);intro e;obtain ⟨es,clock,h1⟩:=h.block;obtain ⟨cs,fz,h2⟩:=ho.block e.symm;rw [h1] at h2;cases h2
theorem cu.map {base:Nat} {w w':World} {mb m:Nat} {g:Int×ByteArray→Option Int} {v:Value} {l:List dM} (ho:cu base w v l) (h:dZ w mb m g) (hg:w.grownBy w' (some mb)):cu base w' v l:=by
 refine ho.kept hg (.inr ?_);intro e;obtain ⟨es,clock,h1⟩:=h.block;obtain ⟨cs,fz,h2⟩:=ho.block e;rw [h1] at h2;cases h2
theorem cu.lower {base base':Nat} {w:World} {v:Value} {l:List dM} (h:cu base w v l) (hb:base'≤base):cu base' w v l:=PE h hb
theorem cu.get {base:Nat} {w:World} {v:Value} {l:List dM} (h:cu base w v l) (hl:0<l.length) :
  ∃g cap cur,v=.slice (some ⟨g,0,none⟩) l.length cap∧base≤g∧aH w g 42 cur∧l.length*3≤cur.size∧∀k (hk:k<l.length),cur[k*3]?=some (.int .i64 l[k].unit)∧cur[k*3+1]?=some (.string l[k].par)∧cur[k*3+2]?=some (.int .i64 l[k].lv):=by
 rcases h.2 with ⟨rfl,hn⟩ | ⟨g,cap,cur,rfl,hb,h1,hnc,hcm,hcs,hct⟩
 ·omega
 ·have h3:l.length*3≤cap*3:=Nat.mul_le_mul_right _ hnc;refine ⟨g,cap,cur,rfl,hb,h1,by omega,fun k hk=>?_⟩
  have key:∀j,j<3→cur[k*3+j]?=(fH l[k])[j]?:=by
   intro j hj;have h2:=flat_get fH 3 (fun _=>rfl) l k hk j hj;rw [←hct,List.getElem?_take_of_lt (by omega),Array.getElem?_toList] at h2;exact h2
  exact ⟨key 0 (by omega),key 1 (by omega),key 2 (by omega)⟩
theorem cu.put3 {base g cap:Nat} {w:World} {l:List dM} (h:cu base w (.slice (some ⟨g,0,none⟩) l.length cap) l) (k:Nat) (hk:k<l.length) (y:dM) :
  cu base (((w.setCell ⟨g,k*3,none⟩ (.int .i64 y.unit)).setCell ⟨g,k*3+1,none⟩ (.string y.par)).setCell ⟨g,k*3+2,none⟩ (.int .i64 y.lv)) (.slice (some ⟨g,0,none⟩) l.length cap) (l.set k y):=h.put k hk y
theorem Bf (fn:FuncId) (p q:Value) (m:Int) (H:Int→Bool) (w:World) (hm0:0≤m) (hm1:m≤1000000000)
  (hmono:∀a b,0≤a→a≤b→b≤m→H b=true→H a=true)
  (hcf:∀args W,Sem.run Tryz.prog (callFunc fn args) W=.ok (.enter fn args) W)
  (hc:∀k W,0≤k→k≤m→Below w.heap.size w W→Calls Tryz.prog fn #[.int .i64 k,p,q] W fun e w'=>e=.returned (.bool (H k))∧Below W.heap.size W w') :
  Calls Tryz.prog 70 #[.int .i64 m,.func (.func fn) #[] #[p,q]] w fun e w'=>∃r,e=.returned (.int .i64 r)∧(0≤r∧r≤m)∧(0<r→H r=true)∧(r<m→H (r+1)=false)∧Below w.heap.size w w':=by
 have HC:=ah hc;have HMO:=ah hmono;clear hc hmono;go_enter Tryz.func70,Tryz.ntmps70;go_wp2_with fail;go_loopw [5,6] (fun a b wx=>∃(lo hi:Int),a=.int .i64 lo∧b=.int .i64 hi∧0≤lo∧lo≤hi∧hi≤m∧Hid (0<lo→H lo=true)∧Hid (hi<m→H (hi+1)=false)∧Hid (Below w.heap.size w wx)) (fun a b _=>(intOf b-intOf a).toNat)
 case atStart=>exact ⟨0,m,rfl,rfl,by omega,by omega,by omega,ah (fun h=>absurd h (by omega)),ah (fun h=>absurd h (by omega)),ah (Below.refl _ _)⟩
 case round=>
  obtain ⟨lo,hi,rfl,rfl,h0,h1,h2,HL,HH,HB⟩:=hrel;by_cases hlt:lo<hi
  ·have a1:IntKind.i64.wrap (lo+hi)=lo+hi:=IntWalk.i64_in _ (by omega);have a2:IntKind.i64.wrap (lo+hi+1)=lo+hi+1:=IntWalk.i64_in _ (by omega);have a3:(lo+hi+1).tdiv 2=(lo+hi+1) / 2:=Int.tdiv_eq_ediv_of_nonneg (by omega);obtain ⟨k,hk⟩:∃k,(lo+hi+1) / 2=k:=⟨_,rfl⟩;have hk1:lo<k∧k≤hi:=by omega
   rw [hk] at a3;have a4:IntKind.i64.wrap k=k:=IntWalk.i64_in _ (by omega);have a5:IntKind.i64.wrap (k-1)=k-1:=IntWalk.i64_in _ (by omega);have J3:=ah (HC.out k wr (by omega) (by omega) HB.out);clear hk;cases hHk:H k
   ·rw [hHk] at J3;have HN:=ah (show k-1<m→H (k-1+1)=false from fun _=>by rw [show k-1+1=k by omega];exact hHk);clear hHk;go_wp2_with fail;refine J3.out.mono ?_;rintro e wz ⟨rfl,hb⟩;have qW:=ah (HB.out.trans (hb.mono HB.out.size));clear hb J3;go_wp2_with fail;go_roundw
    case rel=>exact ⟨lo,k-1,rfl,by first | rfl | go_num,by omega,by omega,by omega,HL,HN,qW⟩
    case measure=>simp [intOf];omega
   ·rw [hHk] at J3;have HN:=ah (show 0<k→H k=true from fun _=>hHk);clear hHk;go_wp2_with fail;refine J3.out.mono ?_;rintro e wz ⟨rfl,hb⟩;have qW:=ah (HB.out.trans (hb.mono HB.out.size));clear hb J3;go_wp2_with fail;go_roundw
    case rel=>exact ⟨k,hi,rfl,rfl,by omega,by omega,by omega,HN,HH,qW⟩
    case measure=>simp [intOf];omega
  ·have he:lo=hi:=by omega
   subst he;go_wp2_with fail;go_ret;exact ⟨lo,rfl,⟨h0,h2⟩,HL.out,HH.out,HB.out⟩
theorem OM (low aD aA ay ak:Int) (aI rel:Bool) (ao:Option Addr) (cap:Nat) (l:List Stp) (w:World) :
  Calls Tryz.prog 66 #[.agg #[.int .i64 1,.int .i64 low,.int .i64 aD,.int .i64 aA,.int .i64 ay,.int .i64 ak,.bool aI,.bool rel,.slice ao l.length cap]] w fun e w'=>e=.returned (.iface 145 (.agg #[]))∧Below w.heap.size w w':=by
 go_enter Tryz.func66,Tryz.ntmps66;go_wp2_with fail;go_ret;exact ⟨rfl,(Below.refl _ _).alloc (Nat.le_refl _) _⟩
theorem OL (low aD aA ay ak:Int) (aI rel:Bool) (ao:Option Addr) (cap:Nat) (l:List Stp) (w:World) :
  Calls Tryz.prog 66 #[.agg #[.int .i64 2,.int .i64 low,.int .i64 aD,.int .i64 aA,.int .i64 ay,.int .i64 ak,.bool aI,.bool rel,.slice ao l.length cap]] w fun e w'=>e=.returned (.iface 146 (.agg #[]))∧Below w.heap.size w w':=by
 go_enter Tryz.func66,Tryz.ntmps66;go_wp2_with fail;go_ret;exact ⟨rfl,(Below.refl _ _).alloc (Nat.le_refl _) _⟩
theorem OJ (low aD aA ay ak:Int) (aI rel:Bool) (ao:Option Addr) (cap:Nat) (l:List Stp) (w:World) :
  Calls Tryz.prog 66 #[.agg #[.int .i64 3,.int .i64 low,.int .i64 aD,.int .i64 aA,.int .i64 ay,.int .i64 ak,.bool aI,.bool rel,.slice ao l.length cap]] w fun e w'=>e=.returned (.iface 147 (.agg #[]))∧Below w.heap.size w w':=by
 go_enter Tryz.func66,Tryz.ntmps66;go_wp2_with fail;go_ret;exact ⟨rfl,(Below.refl _ _).alloc (Nat.le_refl _) _⟩
theorem OI (low aD aA ay ak:Int) (aI rel:Bool) (ao:Option Addr) (cap:Nat) (l:List Stp) (w:World) :
  Calls Tryz.prog 66 #[.agg #[.int .i64 4,.int .i64 low,.int .i64 aD,.int .i64 aA,.int .i64 ay,.int .i64 ak,.bool aI,.bool rel,.slice ao l.length cap]] w fun e w'=>e=.returned (.iface 149 (.agg #[.int .i64 ay]))∧Below w.heap.size w w':=by
 go_enter Tryz.func66,Tryz.ntmps66;go_wp2_with fail;go_ret;exact ⟨rfl,(Below.refl _ _).alloc (Nat.le_refl _) _⟩
theorem OH (low aD aA ay ak:Int) (aI rel:Bool) (ao:Option Addr) (cap:Nat) (l:List Stp) (w:World) :
  Calls Tryz.prog 66 #[.agg #[.int .i64 5,.int .i64 low,.int .i64 aD,.int .i64 aA,.int .i64 ay,.int .i64 ak,.bool aI,.bool rel,.slice ao l.length cap]] w fun e w'=>e=.returned (.iface 150 (.agg #[]))∧Below w.heap.size w w':=by
 go_enter Tryz.func66,Tryz.ntmps66;go_wp2_with fail;go_ret;exact ⟨rfl,(Below.refl _ _).alloc (Nat.le_refl _) _⟩
theorem OG (low aD aA ay ak:Int) (aI rel:Bool) (ao:Option Addr) (cap:Nat) (l:List Stp) (w:World) :
  Calls Tryz.prog 66 #[.agg #[.int .i64 6,.int .i64 low,.int .i64 aD,.int .i64 aA,.int .i64 ay,.int .i64 ak,.bool aI,.bool rel,.slice ao l.length cap]] w fun e w'=>e=.returned (.iface 151 (.agg #[]))∧Below w.heap.size w w':=by
 go_enter Tryz.func66,Tryz.ntmps66;go_wp2_with fail;go_ret;exact ⟨rfl,(Below.refl _ _).alloc (Nat.le_refl _) _⟩
theorem OE (low aD aA ay ak:Int) (aI rel:Bool) (ao:Option Addr) (cap:Nat) (l:List Stp) (c:Int) (w:World) (hs:eH w.heap.size w ao l) (hl:l.length≤50) (hall:l.all fV=true) (hc:0≤aA∧aA≤3600000) (hcc:aA+dh l=c) :
  Calls Tryz.prog 66 #[.agg #[.int .i64 7,.int .i64 low,.int .i64 aD,.int .i64 aA,.int .i64 ay,.int .i64 ak,.bool aI,.bool rel,.slice ao l.length cap]] w fun e w'=>e=.returned (.iface 153 (.agg #[.slice ao l.length cap,.int .i64 c]))∧Below w.heap.size w w':=by
 have CC:=ah (fun (W:World) (hb:Below w.heap.size w W)=>xG 7 low aD aA ay ak aI rel ao cap l W (dA hs hb) hl hall hc);rw [hcc] at CC;clear hs hall hcc;go_enter Tryz.func66,Tryz.ntmps66;have HT:=ah (show aH (w.alloc (.cells #[.int .i64 7,.int .i64 low,.int .i64 aD,.int .i64 aA,.int .i64 ay,.int .i64 ak,.bool aI,.bool rel,.slice ao l.length cap] 28)) w.heap.size 28 #[.int .i64 7,.int .i64 low,.int .i64 aD,.int .i64 aA,.int .i64 ay,.int .i64 ak,.bool aI,.bool rel,.slice ao l.length cap] from aH.new w _ _);have HB:=ah (show Below w.heap.size w (w.alloc (.cells #[.int .i64 7,.int .i64 low,.int .i64 aD,.int .i64 aA,.int .i64 ay,.int .i64 ak,.bool aI,.bool rel,.slice ao l.length cap] 28)) from (Below.refl _ _).alloc (Nat.le_refl _) _);go_upto_region 14 with fail;generalize hw1:(w.alloc (.cells #[.int .i64 7,.int .i64 low,.int .i64 aD,.int .i64 aA,.int .i64 ay,.int .i64 ak,.bool aI,.bool rel,.slice ao l.length cap] 28))=w1 at *;clear hw1;refine aX (by kernel_rfl) 7 (by simp) (by kernel_rfl) (by kernel_rfl) (by kernel_rfl) (by kernel_rfl) (fun jx vx wx=>match jx with | 0=>vx=(.pointer (some ⟨w.heap.size,8,none⟩)) | 1=>vx=(.slice ao l.length cap) | 2=>vx=(.agg #[.int .i64 7,.int .i64 low,.int .i64 aD,.int .i64 aA,.int .i64 ay,.int .i64 ak,.bool aI,.bool rel,.slice ao l.length cap]) | 3=>vx=(.int .i64 c) | 4=>vx=(.agg #[.slice ao l.length cap,.int .i64 c]) | 5=>vx=(.iface 153 (.agg #[.slice ao l.length cap,.int .i64 c])) | 6=>vx=(.iface 153 (.agg #[.slice ao l.length cap,.int .i64 c])) | _=>True) (fun W=>Below w1.heap.size w1 W) (fun wx wy=>Below wx.heap.size wx wy) (Below.refl _ _).drew ?_ ?_ ?_ ?_
 ·intro jx vx wx wy h g
  match jx,h with
  | 0,h | 1,h | 2,h | 3,h | 4,h | 5,h | 6,h=>exact h
  | jx+7,h=>exact trivial
 ·intro jx ox dx hj ho hd;exact bO (by kernel_rfl) hj ho hd
 ·intro ix ox ax W hi aC hsh hW hpre;have hsz:w1.heap.size≤W.heap.size:=hW.size;have GA:∀ob,Below W.heap.size W (W.alloc ob):=fun ob=>(Below.refl _ _).alloc (Nat.le_refl _) ob;have WA:∀ob,Below w1.heap.size w1 (W.alloc ob):=fun ob=>hW.alloc hsz ob;have t1:ax.tmps[1]?.getD undef=(.pointer (some ⟨w.heap.size,0,none⟩)):=gT (hsh.2.2 1 (aM (by kernel_rfl)));obtain ⟨q0,q1,q2,q3,q4,q5,q6,q7,q8⟩:W.cell? ⟨w.heap.size,0,none⟩=some (.int .i64 7)∧W.cell? ⟨w.heap.size,1,none⟩=some (.int .i64 low)∧W.cell? ⟨w.heap.size,2,none⟩=some (.int .i64 aD)∧W.cell? ⟨w.heap.size,3,none⟩=some (.int .i64 aA)∧W.cell? ⟨w.heap.size,4,none⟩=some (.int .i64 ay)∧W.cell? ⟨w.heap.size,5,none⟩=some (.int .i64 ak)∧W.cell? ⟨w.heap.size,6,none⟩=some (.bool aI)∧W.cell? ⟨w.heap.size,7,none⟩=some (.bool rel)∧W.cell? ⟨w.heap.size,8,none⟩=some (.slice ao l.length cap):=⟨(HT.out.below hW).cell (i:=0) rfl,(HT.out.below hW).cell (i:=1) rfl,(HT.out.below hW).cell (i:=2) rfl,(HT.out.below hW).cell (i:=3) rfl,(HT.out.below hW).cell (i:=4) rfl,(HT.out.below hW).cell (i:=5) rfl,(HT.out.below hW).cell (i:=6) rfl,(HT.out.below hW).cell (i:=7) rfl,(HT.out.below hW).cell (i:=8) rfl⟩;clear hsh
  match ix,hi,aC with
  | 0,_,aC=>
   cases aC;exact au (w':=W) (by simp [execOp,Act.eval,t1,go_sem]) (aS hW)
  | 1,_,aC=>
   cases aC;have f0:=gT (hpre ⟨0,.data⟩ (by simp) (by rfl) _ _ rfl rfl);exact au (w':=W) (by simp [execOp,Act.eval,q8,f0,go_sem]) (aS hW)
  | 2,_,aC=>
   cases aC;exact au (w':=W) (by simp [execOp,Act.eval,t1,q0,q1,q2,q3,q4,q5,q6,q7,q8,go_sem]) (aS hW)
  | 3,_,aC=>
   cases aC;have f2:=gT (hpre ⟨2,.data⟩ (by simp) (by rfl) _ _ rfl rfl);refine aG (by simp [execOp,Act.eval,f2,go_sem]) ((CC.out W (HB.out.trans (hW.mono (by have:=HT.out.lt;omega)))).mono ?_);rintro ex wy ⟨rfl,hb⟩;exact ⟨_,rfl,_,rfl,rfl,hW.trans (hb.mono hsz),hb⟩
  | 4,_,aC=>
   cases aC;have f1:=gT (hpre ⟨1,.data⟩ (by simp) (by rfl) _ _ rfl rfl);have f3:=gT (hpre ⟨3,.data⟩ (by simp) (by rfl) _ _ rfl rfl);exact au (w':=W) (by simp [execOp,Act.eval,f1,f3,go_sem]) (aS hW)
  | 5,_,aC=>
   cases aC;have f4:=gT (hpre ⟨4,.data⟩ (by simp) (by rfl) _ _ rfl rfl);exact au (w':=W) (by simp [execOp,Act.eval,f4,go_sem]) (aS hW)
  | 6,_,aC=>
   cases aC;have f5:=gT (hpre ⟨5,.data⟩ (by simp) (by rfl) _ _ rfl rfl);exact au (w':=W) (by simp [execOp,Act.eval,f5,go_sem]) (aS hW)
  | ix+7,hi,_=>exact absurd hi (by omega)
 ·intro ax W hsh hW hφ;have e0:=hφ 0 _ _ (by omega) rfl rfl;have e1:=hφ 1 _ _ (by omega) rfl rfl;have e2:=hφ 2 _ _ (by omega) rfl rfl;have e3:=hφ 3 _ _ (by omega) rfl rfl;have e4:=hφ 4 _ _ (by omega) rfl rfl;have e5:=hφ 5 _ _ (by omega) rfl rfl;have e6:=hφ 6 _ _ (by omega) rfl rfl;rw [bf hsh [(31,_),(32,_),(33,_),(34,_),(35,_),(36,_),(2,_)] [31,32,33,34,35,36,2] rfl (by kernel_rfl) ⟨e0,e1,e2,e3,e4,e5,e6,trivial⟩];clear hφ hsh e0 e1 e2 e3 e4 e5 e6;simp only [cB,List.foldl_cons,List.foldl_nil,List.drop_succ_cons,List.drop_zero,Act.put,List.setIfInBounds_toArray,List.set_cons_succ,List.set_cons_zero];have gu:=ah (HB.out.trans (hW.mono (by have:=HT.out.lt;omega)));clear hW;go_wp2_with fail;go_ret;exact ⟨rfl,gu.out⟩
end Go.Proofs.YtopmdeefcjdadaaGreat
