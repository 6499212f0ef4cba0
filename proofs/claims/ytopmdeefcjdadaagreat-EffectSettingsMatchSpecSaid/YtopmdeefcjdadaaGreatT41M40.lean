import Derived.Test.YtopmdeefcjdadaaGreatT41M00
import Derived.Test.YtopmdeefcjdadaaGreatT41M15
import Derived.Test.YtopmdeefcjdadaaGreatT41M12
import Derived.Test.YtopmdeefcjdadaaGreatT41M14
import Derived.Test.YtopmdeefcjdadaaGreatT41M21
import Derived.Test.YtopmdeefcjdadaaGreatT41M39
import Derived.Test.YtopmdeefcjdadaaGreatT41M19
import Derived.Test.YtopmdeefcjdadaaGreatT41M03
import Derived.Test.YtopmdeefcjdadaaGreatT41M38
set_option linter.unusedVariables false
set_option linter.unusedSimpArgs false
set_option maxRecDepth 100000
set_option maxHeartbeats 32000000
namespace Go.Proofs.YtopmdeefcjdadaaGreat
open Go.RowKit
theorem Ei (x:jw) (lv uv:Value) (l:List jg) (sv:Value) (w:World) (h:kH w.heap.size w x lv uv) (hx:bW x=0) (hS:mh w.heap.size w sv l) (hs:∀s∈l,qZ s) :
  Calls Tryz.prog 21 #[kS lv uv,sv] w fun e w'=>e=.returned (.int .i64 (eX x l))∧Below w.heap.size w w':=by
 have CF:=ah (fun (n:Int) (nm:ByteArray) W (hb:Below w.heap.size w W) (hn:oI n)=>vC x lv uv w.heap.size n nm W hb.size (h.below hb) hx hn);have HG:=ah (mh.get hS);have hml:=aW.len hS;unfold maxLen at hml;have Mx:=ah hs;obtain ⟨uo,dG,rfl,_⟩:=aW.shape h.aD;obtain ⟨lo,dJ,rfl⟩:=iq h.lib;obtain ⟨so,dI,rfl,hsc,hsm⟩:=aW.shape hS;unfold maxLen at hsm;unfold kS at *;have HC:=ah (show eX x l=bP (pV x) l 0 from rfl);clear h hS hs hx;generalize eX x l=RES at *
 have KC:=ah (show ∀W,Below (w.heap.size+1) (w.alloc (.cells #[.slice lo x.lib.length dJ,.slice uo x.aD.length dG] 25)) W→(Below w.heap.size w W∧w.heap.size<W.heap.size∧W.cell? ⟨w.heap.size,0,none⟩=some (.slice lo x.lib.length dJ)∧W.cell? ⟨w.heap.size,1,none⟩=some (.slice uo x.aD.length dG)) from fun W hW=>by
  have hz:=hW.size;simp at hz;exact ⟨((Below.refl _ _).alloc (Nat.le_refl _) _).trans (hW.mono (by omega)),by omega,(hW.cell (p:=⟨w.heap.size,0,none⟩) (by simp)).trans (by simp [go_sem]),(hW.cell (p:=⟨w.heap.size,1,none⟩) (by simp)).trans (by simp [go_sem])⟩)
 have KM:=ah (show ∀W W1,Below (w.heap.size+1) (w.alloc (.cells #[.slice lo x.lib.length dJ,.slice uo x.aD.length dG] 25)) W→Below W.heap.size W W1→Below (w.heap.size+1) (w.alloc (.cells #[.slice lo x.lib.length dJ,.slice uo x.aD.length dG] 25)) W1 from fun W W1 h1 h2=>h1.trans (h2.mono (by have:=h1.size;simp at this;omega)));have KA:=ah (show ∀W o,Below (w.heap.size+1) (w.alloc (.cells #[.slice lo x.lib.length dJ,.slice uo x.aD.length dG] 25)) W→Below (w.heap.size+1) (w.alloc (.cells #[.slice lo x.lib.length dJ,.slice uo x.aD.length dG] 25)) (W.alloc o) from fun W o h=>h.alloc (by have:=h.size;simp at this;omega) o);have HB0:=ah (Below.refl (w.heap.size+1) (w.alloc (.cells #[.slice lo x.lib.length dJ,.slice uo x.aD.length dG] 25)));go_enter Tryz.func21,Tryz.ntmps21;go_wp2_with fail;go_loopw [13] (fun i wx=>∃k:Nat,k≤l.length∧i=.int .i64 k∧Hid (RES=bP (pV x) l k)∧Hid (Below (w.heap.size+1) (w.alloc (.cells #[.slice lo x.lib.length dJ,.slice uo x.aD.length dG] 25)) wx)) (fun i _=>l.length-(intOf i).toNat)
 case atStart=>exact ⟨0,Nat.zero_le _,rfl,HC,HB0⟩
 case round=>
  clear HC HB0;obtain ⟨k,hk,rfl,iO,bG⟩:=hrel;obtain ⟨wo,rfl⟩:∃wo:World,wo=wr:=⟨_,rfl⟩;obtain ⟨hB,hz,p0,p1⟩:=KC.out wo bG.out;by_cases hlt:k<l.length
  ·obtain ⟨b,off,cap',hsl,hb,_,hc⟩:=HG.out (by omega);injection hsl with hs1 hs2 hs3;subst hs1 hs3;obtain ⟨d0,d1,d2⟩:=hc k hlt wo hB;have HRW:=ah hc;have hbr:b<wo.heap.size:=by have:=hB.size;omega
   have HUI:=ah (Mx.out _ (List.getElem_mem hlt)).1;have rG:=ah (eZ (pV x) l k hlt);have iG:=ah (fP (pV x) l k hlt);have eF:=ah (show pV x (l.take k) l[k]=if (gu x l[k].unit l[k].par.data.toList).isNone then 8 else if !bU l[k].lv 0 65535 then 1 else if (l.take k).any (isK (l[k].unit,l[k].par)) then 6 else 0 from rfl);generalize pV x (l.take k) l[k]=FF at *;clear hc hB;generalize kM:l[k]=rk at *;clear kM;obtain ⟨su,sp,sl⟩:=rk;simp only at *;have dN:=ah (KA.out _ (.cells #[.int .i64 su,.string sp,.int .i64 sl] 42) bG.out);have CX:=ah (CF.out su sp _ (KC.out _ dN.out).1 HUI.out);generalize gu x su sp.data.toList=PO at *;go_wp2_with fail;refine CX.out.mono ?_;rintro e w5 ⟨xv,rfl,hxr,hb5⟩;obtain ⟨qn,qg,qs,qf,qd,qb,qo,ql,qc,rfl⟩:=tJ hxr;have hz5:=hb5.size;simp only [World.size_alloc] at hz5;have hwr5:wo.heap.size<w5.heap.size:=by omega
   have tZ:=ah (KM.out _ _ dN.out hb5)
   have KU5:=ah (show ∀W,Below w5.heap.size w5 W→W.cell? ⟨wo.heap.size,0,none⟩=some (.int .i64 su)∧W.cell? ⟨wo.heap.size,1,none⟩=some (.string sp)∧W.cell? ⟨wo.heap.size,2,none⟩=some (.int .i64 sl) from fun W hW=>by
    have h:=hb5.trans (hW.mono (by simp;omega));exact ⟨(h.cell (p:=⟨wo.heap.size,0,none⟩) (by simp)).trans (by simp [go_sem]),(h.cell (p:=⟨wo.heap.size,1,none⟩) (by simp)).trans (by simp [go_sem]),(h.cell (p:=⟨wo.heap.size,2,none⟩) (by simp)).trans (by simp [go_sem])⟩)
   obtain ⟨f0,f1,f2⟩:=KU5.out _ (Below.refl _ _);have hnI:PO.isNone=!PO.isSome:=by cases PO<;>rfl
   rw [hnI] at eF;generalize PO.isSome=IS at *;clear hb5 hxr CX dN bG hnI p0 p1 d0 d1 d2 hz;have wP:=ah (KA.out _ (.cells #[.string qn,.int .i64 qg,.int .i64 qs,.int .i64 qf,.int .i64 qd,.bool qb,.slice qo ql qc] 81) tZ.out);have hs6:wo.heap.size<(w5.alloc (.cells #[.string qn,.int .i64 qg,.int .i64 qs,.int .i64 qf,.int .i64 qd,.bool qb,.slice qo ql qc] 81)).heap.size:=by simp;omega
   have KU6:=ah (show ∀W,Below (w5.alloc (.cells #[.string qn,.int .i64 qg,.int .i64 qs,.int .i64 qf,.int .i64 qd,.bool qb,.slice qo ql qc] 81)).heap.size (w5.alloc (.cells #[.string qn,.int .i64 qg,.int .i64 qs,.int .i64 qf,.int .i64 qd,.bool qb,.slice qo ql qc] 81)) W→W.cell? ⟨wo.heap.size,0,none⟩=some (.int .i64 su)∧W.cell? ⟨wo.heap.size,1,none⟩=some (.string sp) from fun W hW=>by
    have h:=KU5.out W (((Below.refl _ _).alloc (Nat.le_refl _) _).trans (hW.mono (by simp)));exact ⟨h.1,h.2.1⟩)
   clear tZ KU5;cases IS
   ·skip;have HE:FF=8:=by rw [eF.out];rfl
    have HV:=ah (show RES=8 by rw [iO.out,iG.out (by rw [HE];decide),HE]);clear HE;go_wp2_with fail;go_ret;exact ⟨by rw [HV.out]<;>rfl,(KC.out _ wP.out).1⟩
   rcases Bool.eq_false_or_eq_true (bU sl 0 65535) with k0 | k0;rotate_left
   ·skip;have HE:FF=1:=by rw [eF.out];simp [k0]
    have HV:=ah (show RES=1 by rw [iO.out,iG.out (by rw [HE];decide),HE]);clear HE;go_wp2_with (first | (go_at_call 44;((with_reducible refine (bf _ _).mono ?_);rintro e w' ⟨rfl,rfl⟩)) | fail);go_ret;exact ⟨by rw [HV.out]<;>rfl,(KC.out _ wP.out).1⟩
   have qy:=ah (show FF=if (l.take k).any (isK (su,sp)) then 6 else 0 by rw [eF.out];simp [k0]);clear eF;have eF:=qy;clear qy;have hi1:(0:Int)≤(k:Int):=by omega
   have hi2:(k:Int)≤(dI:Int):=by omega
   have hi3:k≤dI:=by omega
   go_wp2_with (first | (go_at_call 44;((with_reducible refine (bf _ _).mono ?_);rintro e w' ⟨rfl,rfl⟩)) | fail);clear k0 f0 f1 f2;generalize hW6:w5.alloc (.cells #[.string qn,.int .i64 qg,.int .i64 qs,.int .i64 qf,.int .i64 qd,.bool qb,.slice qo ql qc] 81)=wd at *;clear hW6;go_loopw [35] (fun i wx=>∃j:Nat,j≤k∧i=.int .i64 j∧Hid ((l.take j).any (isK (su,sp))=false)∧Hid (Below wd.heap.size wd wx)) (fun i _=>k-(intOf i).toNat)
   case atStart=>exact ⟨0,Nat.zero_le _,rfl,ah (by simp),ah (Below.refl _ _)⟩
   case round=>
    obtain ⟨j,hj,rfl,wN,uW⟩:=hrel;have hzi:=uW.out.size;obtain ⟨e0,e1⟩:=KU6.out wr uW.out;have DK:=ah (KM.out _ _ wP.out uW.out);have hor:wo.heap.size<wr.heap.size:=by omega
    have hbi:b<wr.heap.size:=by omega
    by_cases hjlt:j<k
    ·have hjl:j<l.length:=by omega
     obtain ⟨d0,d1,d2⟩:=HRW.out j hjl wr (KC.out _ DK.out).1;have uV:=ah (Fh (isK (su,sp)) l j hjl);have nQ:=ah (PU (isK (su,sp)) l k j hjl hjlt);have HCD:=ah (show isK (su,sp) l[j]=decide ((l[j].unit,l[j].par)=(su,sp)) from rfl);generalize isK (su,sp) l[j]=CJ at *;generalize kM:l[j]=rk at *;clear kM;obtain ⟨yu,yp,yl⟩:=rk;simp only at *;have dN:=ah (uW.out.alloc hzi (.cells #[.int .i64 yu,.string yp,.int .i64 yl] 42));have wO:=ah (KA.out _ (.cells #[.int .i64 yu,.string yp,.int .i64 yl] 42) DK.out);by_cases h1:yu=su
     ·by_cases h2:yp=sp
      ·have HCJ:=ah (show CJ=true by rw [HCD.out,h1,h2];simp);have HE:FF=6:=by rw [eF.out];rw [nQ.out HCJ.out];rfl
       have HV:=ah (show RES=6 by rw [iO.out,iG.out (by rw [HE];decide),HE]);clear HE;have h1':=Eq.symm h1;have h2':=Eq.symm h2;clear h1 h2;subst h1' h2';have h3:(sp.toList==sp.toList)=true:=by simp
       have sV:=ah (KC.out _ wO.out).1;go_wp2_with fail;go_ret;exact ⟨by rw [HV.out]<;>rfl,sV.out⟩
      ·have HCJ:=ah (show CJ=false by rw [HCD.out];simp [h2]);have h3:¬yp.toList=sp.toList:=fun h=>h2 (ByteArray.ext (Array.toList_inj.1 (by rw [←Lib.toList_data,←Lib.toList_data];exact h)));have h4:(yp.toList==sp.toList)=false:=beq_eq_false_iff_ne.2 h3;have h5:¬sp.toList=yp.toList:=fun h=>h3 h.symm;have h6:(sp.toList==yp.toList)=false:=beq_eq_false_iff_ne.2 h5;have h1':=Eq.symm h1;clear h1 h2;subst h1';have HV:=ah (show (l.take (j+1)).any (isK (su,sp))=false by rw [uV.out,wN.out,HCJ.out];rfl);go_wp2_with fail;go_roundw
       case rel=>exact ⟨j+1,by omega,by go_num,HV,dN⟩
       case measure=>simp [intOf];omega
     ·have HCJ:=ah (show CJ=false by rw [HCD.out];simp [h1]);have h7:(yu==su)=false:=by simpa using h1
      have HV:=ah (show (l.take (j+1)).any (isK (su,sp))=false by rw [uV.out,wN.out,HCJ.out];rfl);go_wp2_with fail;go_roundw
      case rel=>exact ⟨j+1,by omega,by go_num,HV,dN⟩
      case measure=>simp [intOf];omega
    ·have hjk:j=k:=by omega
     subst hjk;have HE:FF=0:=by rw [eF.out,wN.out];rfl
     have HV:=ah (show RES=bP (pV x) l (j+1) by rw [iO.out,rG.out HE]);clear HE wN;go_wp2_with fail;go_roundw
     case rel=>exact ⟨j+1,by omega,by go_num,HV,DK⟩
     case measure=>simp [intOf];omega
  ·have HV:=ah (show RES=0 by rw [iO.out,fO (pV x) l k (by omega)]);have HBO:=ah hB;have hkk:k=l.length:=by omega
   clear hB;subst hkk;go_wp2_with fail;go_ret;exact ⟨by rw [HV.out]<;>rfl,HBO.out⟩
theorem stsF_eq (r:jw) (x:Run) (l:List jg) (t:Int):tu r x l t=if vV r x≠0 then vV r x else if eX r l≠0 then eX r l else if bU t 0 36000000 then 0 else 1:=by
 unfold tu vV LG fi2 jN;by_cases h1:bW r=0
 ·by_cases h2:dS r x=0
  ·by_cases h3:eX r l=0
   ·cases bU t 0 36000000<;>simp [h1,h2,h3]
   ·simp [h1,h2,h3]
  ·simp [h1,h2]
 ·simp [h1]
theorem Ma {r:jw} {x:Run} (h:vV r x=0):bW r=0∧dS r x=0:=by
 unfold vV at h;by_cases c:bW r=0
 ·rw [if_neg (by simpa using c)] at h;exact ⟨c,h⟩
 ·rw [if_pos c] at h;exact absurd h c
theorem zW (r:jw) (lv uv:Value) (x:Run) (sv kv rv:Value) (l:List jg) (bv:Value) (t:Int) (w:World) (h:kH w.heap.size w r lv uv) (hrf:rA r) (hx:mY w.heap.size w x sv kv rv) (hf:ru x) (hS:mh w.heap.size w bv l) (hSf:∀s∈l,qZ s) :
  Calls Tryz.prog 6 #[kS lv uv,pX x sv kv rv,bv,.int .i64 t] w fun e w'=>∃v,e=.returned (.tuple #[v,.int .i64 (tu r x l t)])∧dY w.heap.size w' v (vk r x l t)∧Below w.heap.size w w':=by
 have CR:=ah (fun W (hb:Below w.heap.size w W)=>sO r lv uv x sv kv rv W ((h.below hb).more hb.size) hrf ((hx.below hb).more hb.size) hf);have CB:=ah (fun W (hb:Below w.heap.size w W) hz=>Ei r lv uv l bv W ((h.below hb).more hb.size) hz ((hS.below hb).more hb.size) hSf)
 have CS:=ah (show ∀W,Below w.heap.size w W→bW r=0→dS r x=0→eX r l=0→0≤t→t≤36000000→Calls Tryz.prog 23 #[kS lv uv,pX x sv kv rv,bv,.int .i64 t] W fun e w'=>∃v,e=.returned v∧dY W.heap.size w' v (fV x t (xD r l))∧Below W.heap.size W w' from fun W hb hz hzx hzb t0 t1=>by
  have hlv:=fun k:Int×ByteArray=>levI_eq (r:=r) (xk hzb) k;rw [←BK x t (sJ r l) (xD r l) (fun k _=>hlv k)];exact J8 r lv uv bv l x sv kv rv t W ((h.below hb).more hb.size) hz ((hS.below hb).more hb.size) ((hx.below hb).more hb.size) hf hzx t0 t1 (fun k _=>by rw [hlv k];exact yU hz (fun s hs=>(vw hzb hs).2) k))
 have HF:=ah (stsF_eq r x l t);have HZ:=ah (fun h=>Ma (r:=r) (x:=x) h);have qp:=ah (show tu r x l t≠0→vk r x l t=[] from fun h=>by unfold vk;rw [if_neg h]);have Ap:=ah (show tu r x l t=0→vk r x l t=fV x t (xD r l) from fun h=>by unfold vk;rw [if_pos h]);generalize tu r x l t=FF at *;generalize vk r x l t=VV at *;clear h hrf hx hf hS hSf;obtain ⟨⟨aJ,low,aC,ay,av,ak,aH,rel,st⟩,aN,aA,aI,bO,aM,aO⟩:=x;simp only [pX,kS] at *;generalize fV _ t (xD r l)=RS at *;generalize vV r _=CX at *;generalize dS r _=CXV at *;generalize eX r l=CBV at *;obtain ⟨w1,hw1⟩:∃w1,w1=((w.alloc (.cells #[lv,uv] 25)).alloc (.cells #[.int .i64 aJ,.int .i64 low,.int .i64 aC,.int .i64 ay,.int .i64 av,.int .i64 ak,.bool aH,.bool rel,sv,kv,.int .i64 aA,rv,.int .i64 bO,.int .i64 aM,.int .i64 aO] 32)):=⟨_,rfl⟩;have Dn:=ah (show aG w1 w.heap.size 25 #[lv,uv] from hw1▸(aG.new w _ _).alloc _);have Ao:=ah (show aG w1 (w.heap.size+1) 32 #[.int .i64 aJ,.int .i64 low,.int .i64 aC,.int .i64 ay,.int .i64 av,.int .i64 ak,.bool aH,.bool rel,sv,kv,.int .i64 aA,rv,.int .i64 bO,.int .i64 aM,.int .i64 aO] from hw1▸(by simpa using aG.new (w.alloc (.cells #[lv,uv] 25)) #[.int .i64 aJ,.int .i64 low,.int .i64 aC,.int .i64 ay,.int .i64 av,.int .i64 ak,.bool aH,.bool rel,sv,kv,.int .i64 aA,rv,.int .i64 bO,.int .i64 aM,.int .i64 aO] 32));have HB1:=ah (show Below w.heap.size w w1 from hw1▸((Below.refl w.heap.size w).alloc (Nat.le_refl _) _).alloc (by simp) _);go_enter Tryz.func6,Tryz.ntmps6;go_upto_region 1 with fail;rw [←hw1];clear hw1
 have KC:=ah (show ∀W,Below w1.heap.size w1 W→Below w.heap.size w W∧w.heap.size+1<W.heap.size∧(W.cell? ⟨w.heap.size,0,none⟩=some lv∧W.cell? ⟨w.heap.size,1,none⟩=some uv∧W.cell? ⟨w.heap.size+1,0,none⟩=some (.int .i64 aJ)∧W.cell? ⟨w.heap.size+1,1,none⟩=some (.int .i64 low)∧W.cell? ⟨w.heap.size+1,2,none⟩=some (.int .i64 aC)∧W.cell? ⟨w.heap.size+1,3,none⟩=some (.int .i64 ay)∧W.cell? ⟨w.heap.size+1,4,none⟩=some (.int .i64 av)∧W.cell? ⟨w.heap.size+1,5,none⟩=some (.int .i64 ak)∧W.cell? ⟨w.heap.size+1,6,none⟩=some (.bool aH)∧W.cell? ⟨w.heap.size+1,7,none⟩=some (.bool rel)∧W.cell? ⟨w.heap.size+1,8,none⟩=some (sv)∧W.cell? ⟨w.heap.size+1,9,none⟩=some (kv)∧W.cell? ⟨w.heap.size+1,10,none⟩=some (.int .i64 aA)∧W.cell? ⟨w.heap.size+1,11,none⟩=some (rv)∧W.cell? ⟨w.heap.size+1,12,none⟩=some (.int .i64 bO)∧W.cell? ⟨w.heap.size+1,13,none⟩=some (.int .i64 aM)∧W.cell? ⟨w.heap.size+1,14,none⟩=some (.int .i64 aO)) from fun W hW=>by
  have k0:=Dn.out.below hW;have k1:=Ao.out.below hW;have kl:=k1.lt;exact ⟨HB1.out.trans (hW.mono HB1.out.size),kl,k0.cell (i:=0) rfl,k0.cell (i:=1) rfl,k1.cell (i:=0) rfl,k1.cell (i:=1) rfl,k1.cell (i:=2) rfl,k1.cell (i:=3) rfl,k1.cell (i:=4) rfl,k1.cell (i:=5) rfl,k1.cell (i:=6) rfl,k1.cell (i:=7) rfl,k1.cell (i:=8) rfl,k1.cell (i:=9) rfl,k1.cell (i:=10) rfl,k1.cell (i:=11) rfl,k1.cell (i:=12) rfl,k1.cell (i:=13) rfl,k1.cell (i:=14) rfl⟩)
 have KM:=ah (show ∀W W',Below w1.heap.size w1 W→Below W.heap.size W W'→Below w1.heap.size w1 W' from fun W W' h1 h2=>h1.trans (h2.mono h1.size));have IJ:=ah (Below.refl w1.heap.size w1);obtain ⟨kb,kl,g0,g1,q0,q1,q2,q3,q4,q5,q6,q7,q8,q9,jH,kJ,lu,lY,lX⟩:=KC.out _ IJ.out;have HB:=ah kb;go_wp2_with fail;refine (CR.out _ HB.out).mono ?_;rintro e w2 ⟨rfl,hb⟩;have F7:=ah (KM.out _ _ IJ.out hb);clear hb HB IJ CR;clear kb kl g0 g1 q0 q1 q2 q3 q4 q5 q6 q7 q8 q9 jH kJ lu lY lX;obtain ⟨kb,kl,g0,g1,q0,q1,q2,q3,q4,q5,q6,q7,q8,q9,jH,kJ,lu,lY,lX⟩:=KC.out _ F7.out;have HB:=ah kb;by_cases hcx:CX=0;rotate_left
 ·have HE:=ah (show FF=CX by rw [HF.out,if_pos hcx]);have Dx:=ah (qp.out (by rw [HE.out];exact hcx));have hnb:(CX !=0)=true:=by simp [hcx]
  go_wp2_with fail;exact bodyPost_ret (v:=.tuple #[.slice none 0 0,.int .i64 CX]) (by simp [results,Tryz.results6,go_sem]) rfl ⟨.slice none 0 0,by rw [HE.out]<;>rfl,by rw [Dx.out];exact dY.nil _ _,HB.out⟩
 have zN:=ah (show FF=if CBV≠0 then CBV else if bU t 0 36000000 then 0 else 1 by rw [HF.out,if_neg (by simpa using hcx)]);obtain ⟨hz1,hz2⟩:=HZ.out hcx;have CBX:=ah (fun W hb=>CB.out W hb hz1);have CSX:=ah (fun W hb=>CS.out W hb hz1 hz2);clear HF HZ CB CS hz1 hz2;subst hcx;go_wp2_with fail;refine (CBX.out _ HB.out).mono ?_;rintro e w3 ⟨rfl,hb⟩;have KR3:=ah (KM.out _ _ F7.out hb);clear hb HB F7 CBX;clear kb kl g0 g1 q0 q1 q2 q3 q4 q5 q6 q7 q8 q9 jH kJ lu lY lX;obtain ⟨kb,kl,g0,g1,q0,q1,q2,q3,q4,q5,q6,q7,q8,q9,jH,kJ,lu,lY,lX⟩:=KC.out _ KR3.out;have HB:=ah kb;by_cases hcb:CBV=0;rotate_left
 ·have HE:=ah (show FF=CBV by rw [zN.out,if_pos hcb]);have Dx:=ah (qp.out (by rw [HE.out];exact hcb));have hnb:(CBV !=0)=true:=by simp [hcb]
  go_wp2_with fail;exact bodyPost_ret (v:=.tuple #[.slice none 0 0,.int .i64 CBV]) (by simp [results,Tryz.results6,go_sem]) rfl ⟨.slice none 0 0,by rw [HE.out]<;>rfl,by rw [Dx.out];exact dY.nil _ _,HB.out⟩
 have Dp:=ah (show FF=if bU t 0 36000000 then 0 else 1 by rw [zN.out,if_neg (by simpa using hcb)]);have CSY:=ah (fun W hb=>CSX.out W hb hcb);clear zN CSX;subst hcb;rcases Bool.eq_false_or_eq_true (bU t 0 36000000) with ht | ht
 ·have HE:=ah (show FF=0 by rw [Dp.out,ht];rfl);obtain ⟨t0,t1⟩:=(nG _ _ _).1 ht;have Dx:=ah (Ap.out HE.out);go_wp2_with (first | (go_at_call 22;((with_reducible refine (fZ _ _).mono ?_);rintro e w' ⟨rfl,rfl⟩)) | fail);refine (CSY.out _ HB.out t0 t1).mono ?_;rintro e w4 ⟨v,rfl,hO,hb⟩;have qA:=ah (HB.out.trans (hb.mono HB.out.size));have HO4:=ah (show dY w.heap.size w4 v VV by rw [Dx.out];exact dY.lower hO HB.out.size);clear hb hO;obtain ⟨oa,oc,rfl⟩:=HO4.out.shape;go_wp2_with fail;exact bodyPost_ret (v:=.tuple #[.slice oa VV.length oc,.int .i64 0]) (by simp [results,Tryz.results6,go_sem]) rfl ⟨_,by rw [HE.out],HO4.out,qA.out⟩
 ·have HE:=ah (show FF=1 by rw [Dp.out,ht];rfl);have Dx:=ah (qp.out (by rw [HE.out];decide));go_wp2_with (first | (go_at_call 22;((with_reducible refine (fZ _ _).mono ?_);rintro e w' ⟨rfl,rfl⟩)) | fail);exact bodyPost_ret (v:=.tuple #[.slice none 0 0,.int .i64 1]) (by simp [results,Tryz.results6,go_sem]) rfl ⟨.slice none 0 0,by rw [HE.out]<;>rfl,by rw [Dx.out];exact dY.nil _ _,HB.out⟩
theorem K5 (r:jw) {l:List jg} {k:Nat} (h:k<l.length) (key:Int×ByteArray):yV r (l.take (k+1)) key=Km (yV r (l.take k)) l[k].k l[k].lv key:=by
 unfold yV Km;rw [List.take_succ_eq_append_getElem h,List.reverse_append];simp only [List.reverse_cons,List.reverse_nil,List.nil_append,List.singleton_append,List.find?_cons];by_cases c:l[k].k=key
 ·rw [rW.2 c,if_pos c]
 ·have:isK key l[k]=false:=by simpa [isK] using c
  rw [this,if_neg c]
theorem Gr (args:Array Value) (W:World):Sem.run Tryz.prog (callFunc 20 args) W=.ok (.enter 20 args) W:=by simp [go_sem]
theorem JX (u:Int) (s:ByteArray) (tb mb m:Nat) (g:Int×ByteArray→Option Int) (W:World) (hT:aG W tb 48 #[.map (some mb)]) (hM:fq W mb m g) (hk:iX (u,s)) :
  Calls Tryz.prog 20 #[.agg #[.int .i64 u,.string s],.pointer (some ⟨tb,0,none⟩)] W fun e w'=>e=.returned (.int .i64 ((g (u,s)).getD 0))∧Below W.heap.size W w':=by
 have q0:=hT.cell (i:=0) rfl;have ql:=hT.lt;have hq:=(hM.alloc (.cells #[.int .i64 u,.string s] 40)).look1 hk;obtain ⟨v,hv⟩:∃v,(g (u,s)).getD 0=v:=⟨_,rfl⟩;rw [hv] at hq ⊢;clear hT hM hv;go_enter Tryz.func20,Tryz.ntmps20;go_wp2
 go_ret;exact ⟨rfl,(Below.refl _ _).alloc (Nat.le_refl _) _⟩
theorem Ae (r:jw) (l:List jg) (sv:Value) (mb m:Nat) (w:World) (hM:fq w mb m (nT r)) (hS:mh w.heap.size w sv l) (hs:∀s∈l,qZ s) :
  Calls Tryz.prog 16 #[sv,.map (some mb)] w fun e w'=>e=.returned (.int .i64 (eX r l))∧Below w.heap.size w w':=by
 have HMK:=ah (show mb<w.heap.size∧∀W,Below w.heap.size w W→fq W mb m (nT r) from ⟨hM.lt,fun W hb=>hM.below hb⟩);have HG:=ah (mh.get hS);have hml:=aW.len hS;unfold maxLen at hml;have Mx:=ah hs;obtain ⟨so,dI,rfl,_⟩:=aW.shape hS;have HC:=ah (show eX r l=bP (pV r) l 0 from rfl);clear hM hS hs;generalize eX r l=RES at *;go_enter Tryz.func16,Tryz.ntmps16;have hmm:=@run_makeMap Tryz.prog;go_wp2_with fail;clear hmm;go_loopw [13] (fun i wx=>∃k:Nat,k≤l.length∧i=.int .i64 k∧Hid (RES=bP (pV r) l k)∧Hid (Below w.heap.size w wx)∧Hid (dz wx Tryz.prog 40 4 w.heap.size k ((l.take k).map (fun s=>lQ s.k)))) (fun i _=>l.length-(intOf i).toNat)
 case atStart=>exact ⟨0,Nat.zero_le _,rfl,HC,ah ((Below.refl _ _).alloc (Nat.le_refl _) _),ah (by simpa using mD w Tryz.prog 40 4)⟩
 case round=>
  clear HC;obtain ⟨k,hk,rfl,iO,bG,zJ⟩:=hrel;have hsz:=bG.out.size;have F5:=zJ.out.lt;have hmbl:=HMK.out.1;by_cases hlt:k<l.length
  ·obtain ⟨b,off,cap',hsl,hbb,_,hc⟩:=HG.out (by omega);injection hsl with hs1 hs2 hs3;subst hs1 hs3;obtain ⟨d0,d1,d2⟩:=hc k hlt wr bG.out;have hbr:b<wr.heap.size:=by omega
   have hfit:=Mx.out _ (List.getElem_mem hlt);have rG:=ah (eZ (pV r) l k hlt);have iG:=ah (fP (pV r) l k hlt);have eF:=ah (show pV r (l.take k) l[k]=if (nT r l[k].k).isNone then 8 else if !bU l[k].lv 0 65535 then 1 else if (l.take k).any (isK l[k].k) then 6 else 0 by rw [Py];rfl);have HKK:=ah (yZ hfit);have hkey:=ah (jR HKK.out);have sU:=ah (show (l.take (k+1)).map (fun s=>lQ s.k)=(l.take k).map (fun s=>lQ s.k)++[lQ l[k].k] by rw [List.take_succ_eq_append_getElem hlt,List.map_append];rfl)
   have Dm:=ah (show lQ l[k].k∈(l.take k).map (fun s=>lQ s.k)↔(l.take k).any (isK l[k].k)=true from ⟨fun h=>by
    obtain ⟨y,hy,he⟩:=List.mem_map.1 h;have:=ze (yZ (Mx.out _ (List.mem_of_mem_take hy))) HKK.out he;exact List.any_eq_true.2 ⟨y,hy,rW.2 this⟩,fun h=>by
    obtain ⟨y,hy,he⟩:=List.any_eq_true.1 h;exact List.mem_map.2 ⟨y,hy,by rw [rW.1 he]⟩⟩)
   have hkv:l[k].k=(l[k].unit,l[k].par):=rfl;rw [hkv] at eF HKK hkey sU Dm;clear hkv;generalize (l.take k).map (fun s=>lQ s.k)=S at *;generalize (l.take k).any (isK (l[k].unit,l[k].par))=SN at *;generalize pV r (l.take k) l[k]=FF at *;generalize kM:l[k]=rk at *;clear kM;obtain ⟨su,sp,sl⟩:=rk;simp only at *;obtain ⟨DO,hDO⟩:∃o,nT r (su,sp)=o:=⟨_,rfl⟩;have hq:=((HMK.out.2 wr bG.out).alloc (.cells #[.int .i64 su,.string sp,.int .i64 sl] 42)).look2 HKK.out hDO;rw [hDO] at eF;have wM:=ah (show dz (wr.alloc (.cells #[.int .i64 su,.string sp,.int .i64 sl] 42)) Tryz.prog 40 4 w.heap.size k S from zJ.out.kept (World.grownBy_alloc _ _ none) (by simp));have dN:=ah (bG.out.alloc bG.out.size (.cells #[.int .i64 su,.string sp,.int .i64 sl] 42));clear hc hfit zJ
   cases DO with
   | none=>
    have HE:FF=8:=by rw [eF.out];rfl
    have HV:=ah (show RES=8 by rw [iO.out,iG.out (by rw [HE];decide),HE]);clear HE;simp only [Option.getD_none,Option.isSome_none] at hq;go_wp2_with fail;go_ret;exact ⟨by rw [HV.out]<;>rfl,dN.out⟩
   | some dv=>
    simp only [Option.getD_some,Option.isSome_some] at hq;rcases Bool.eq_false_or_eq_true (bU sl 0 65535) with k0 | k0;rotate_left
    ·have HE:FF=1:=by rw [eF.out];simp [k0]
     have HV:=ah (show RES=1 by rw [iO.out,iG.out (by rw [HE];decide),HE]);clear HE;go_wp2_with (go_at_call 38;((with_reducible refine (bC _ _).mono ?_);rintro e w' ⟨rfl,rfl⟩));go_ret;exact ⟨by rw [HV.out]<;>rfl,dN.out⟩
    cases SN;rotate_left
    ·have HE:FF=6:=by rw [eF.out];simp [k0]
     have HV:=ah (show RES=6 by rw [iO.out,iG.out (by rw [HE];decide),HE]);clear HE;go_wp2_with (first | (go_at_call 38;((with_reducible refine (bC _ _).mono ?_);rintro e w' ⟨rfl,rfl⟩)) | (at_lookup;refine jM _ rfl _ _ 83 rfl 40 4 mQ Tryz.underlying83 Tryz.underlying4 (rO _) w.heap.size k S rfl wM.out (yY (su,sp)) (lQ (su,sp)) rfl hkey.out ?_;intro c hc;obtain rfl:c=true:=hc.2 (Dm.out.2 (by first | rfl | trivial));clear hc) | fail);go_ret;exact ⟨by rw [HV.out]<;>rfl,dN.out⟩
    ·have HE:FF=0:=by rw [eF.out];simp [k0]
     have HV:=ah (show RES=bP (pV r) l (k+1) by rw [iO.out,rG.out HE]);clear HE;go_wp2_with (first | (go_at_call 38;((with_reducible refine (bC _ _).mono ?_);rintro e w' ⟨rfl,rfl⟩)) | (at_lookup;refine jM _ rfl _ _ 83 rfl 40 4 mQ Tryz.underlying83 Tryz.underlying4 (rO _) w.heap.size k S rfl wM.out (yY (su,sp)) (lQ (su,sp)) rfl hkey.out ?_;intro c hc;obtain rfl:c=false:=(by cases c;rfl;exact absurd (Dm.out.1 (hc.1 rfl)) (by simp));clear hc) | (at_mapUpdate;refine lK _ rfl _ _ _ 83 rfl 40 4 mQ Tryz.underlying83 Tryz.underlying4 w.heap.size k S rfl wM.out (by unfold maxLen;omega) (yY (su,sp)) (lQ (su,sp)) rfl rfl hkey.out ?_;intro w3 hown3 hgrow3) | fail);refine ⟨⟨k+1,by omega,by first | rfl | go_num,HV,ah (dN.out.grown hgrow3 (by simp;omega) (fun j hj=>by cases hj;omega)),ah (by rw [sU.out];exact hown3)⟩,?_⟩;simp [intOf];omega
  ·have HV:=ah (show RES=0 by rw [iO.out,fO _ l k (by omega)]);go_wp2_with fail;go_ret;exact ⟨by rw [HV.out]<;>rfl,bG.out⟩
theorem G5 (pb qb:Nat) (bd dn k:Int) (w:World) (hp:aG w pb 88 #[.int .u64 (hw 0 bd),.int .u64 (hw 1 bd),.int .u64 (hw 2 bd),.int .u64 (hw 3 bd),.int .u64 (hw 4 bd),.int .u64 (hw 5 bd)]) (hq:aG w qb 88 #[.int .u64 (hw 0 dn),.int .u64 (hw 1 dn),.int .u64 (hw 2 dn),.int .u64 (hw 3 dn),.int .u64 (hw 4 dn),.int .u64 (hw 5 dn)]) (hb0:0≤bd) (hbP:bd<bB 6) (hd0:0≤dn) (Du:dn≤1000000000000000000000000000000000000000000000000000000000000000000000000) (k0:0≤k) (k1:k≤65535) :
  Calls Tryz.prog 74 #[.int .i64 k,.pointer (some ⟨pb,0,none⟩),.pointer (some ⟨qb,0,none⟩)] w fun e w'=>e=.returned (.bool (!decide (bd<dn*(2*k))))∧Below w.heap.size w w':=by
 have hbig:=kT;have hdP:dn<bB 6:=by omega
 have EN:0≤2*k:=by omega
 have hk29:2*k≤9223372036854775807:=by omega
 have hdk0:0≤dn*(2*k):=Int.mul_nonneg hd0 EN;have hdm:dn*(2*k)≤1000000000000000000000000000000000000000000000000000000000000000000000000*131070:=(dA (a:=dn) (b:=2*k) (A:=1000000000000000000000000000000000000000000000000000000000000000000000000) (B:=131070) hd0 EN Du (by omega)).2;have hdk:dn*(2*k)<bB 6:=by omega
 have aw:IntKind.i64.wrap (2*k)=2*k:=IntWalk.i64_in _ (by omega);have HP:=ah hp;have HQ:=ah hq;clear hp hq hbig hdm;go_enter Tryz.func74,Tryz.ntmps74;go_upto_region 1 with fail;refine aV (by kernel_rfl) 9 (by simp) (by kernel_rfl) (by kernel_rfl) (by kernel_rfl) (by kernel_rfl) (fun jx vx wx=>match jx with | 0=>vx=(.agg #[.int .u64 (hw 0 bd),.int .u64 (hw 1 bd),.int .u64 (hw 2 bd),.int .u64 (hw 3 bd),.int .u64 (hw 4 bd),.int .u64 (hw 5 bd)]) | 1=>vx=(.agg #[.int .u64 (hw 0 dn),.int .u64 (hw 1 dn),.int .u64 (hw 2 dn),.int .u64 (hw 3 dn),.int .u64 (hw 4 dn),.int .u64 (hw 5 dn)]) | 2=>vx=(.int .i64 k) | 3=>vx=(.int .i64 (2*k)) | 4=>eT w.heap.size vx (.int .i64 (2*k)) wx | 5=>vx=(.agg #[.int .u64 (hw 0 (dn*(2*k))),.int .u64 (hw 1 (dn*(2*k))),.int .u64 (hw 2 (dn*(2*k))),.int .u64 (hw 3 (dn*(2*k))),.int .u64 (hw 4 (dn*(2*k))),.int .u64 (hw 5 (dn*(2*k)))]) | 6=>vx=(.bool (decide (bd<dn*(2*k)))) | 7=>vx=(.bool (!decide (bd<dn*(2*k)))) | 8=>vx=(.bool (!decide (bd<dn*(2*k)))) | _=>True) (fun W=>Below w.heap.size w W) (fun wx wy=>Below wx.heap.size wx wy) (Below.refl _ _).drew ?_ ?_ ?_ ?_
 ·intro jx vx wx wy h g
  match jx,h with
  | 0,h | 1,h | 2,h | 3,h | 5,h | 6,h | 7,h | 8,h=>exact h
  | 4,h=>exact eT.up h g
  | jx+9,h=>exact trivial
 ·intro jx ox dx hj ho hd;exact bN (by kernel_rfl) hj ho hd
 ·intro ix ox ax W hi aB hsh hW hpre;have hsz:w.heap.size≤W.heap.size:=hW.size;have GA:∀ob,Below W.heap.size W (W.alloc ob):=fun ob=>(Below.refl _ _).alloc (Nat.le_refl _) ob;have WA:∀ob,Below w.heap.size w (W.alloc ob):=fun ob=>hW.alloc hsz ob;have t0:ax.tmps[0]?.getD undef=(.int .i64 k):=gT (hsh.2.2 0 (aL (by kernel_rfl)));have t1:ax.tmps[1]?.getD undef=(.pointer (some ⟨pb,0,none⟩)):=gT (hsh.2.2 1 (aL (by kernel_rfl)));have t2:ax.tmps[2]?.getD undef=(.pointer (some ⟨qb,0,none⟩)):=gT (hsh.2.2 2 (aL (by kernel_rfl)));obtain ⟨h0,h1,h2,h3,h4,h5⟩:=bF (HP.out.below hW);obtain ⟨g0,g1,g2,g3,g4,g5⟩:=bF (HQ.out.below hW);clear hsh
  match ix,hi,aB with
  | 0,_,aB=>
   cases aB;exact au (w':=W) (by simp [execOp,Act.eval,t1,h0,h1,h2,h3,h4,h5,go_sem]) (aR hW)
  | 1,_,aB=>
   cases aB;exact au (w':=W) (by simp [execOp,Act.eval,t2,g0,g1,g2,g3,g4,g5,go_sem]) (aR hW)
  | 2,_,aB=>
   cases aB;exact au (w':=W) (by simp [execOp,Act.eval,t0,go_sem]) (aR hW)
  | 3,_,aB=>
   cases aB;have f2:=gT (hpre ⟨2,.data⟩ (by simp) (by rfl) _ _ rfl rfl);exact au (w':=W) (by simp [execOp,Act.eval,aw,f2,go_sem]) (aR hW)
  | 4,_,aB=>
   cases aB;have f3:=gT (hpre ⟨3,.data⟩ (by simp) (by rfl) _ _ rfl rfl);exact au (v:=.slice (some ⟨W.heap.size,0,none⟩) 1 1) (w':=W.alloc (.cells #[.int .i64 (2*k)] 3)) (by simp [execOp,Act.eval,f3,go_sem]) ⟨_,rfl,eT.new _ _ hsz,WA _,GA _⟩
  | 5,_,aB=>
   cases aB;have f1:=gT (hpre ⟨1,.data⟩ (by simp) (by rfl) _ _ rfl rfl);have p4:=hpre ⟨4,.data⟩ (by simp) (by rfl) _ _ rfl rfl;obtain ⟨b4,e4,hb4,hl4,hc4⟩:=p4;have f4:=(Array.getD_eq_getD_getElem? ..).symm.trans e4;refine aF (by simp [execOp,Act.eval,f1,f4,go_sem]) ((fC dn (2*k) b4 W hd0 EN hk29 hdP hdk hl4 hc4).mono ?_);rintro ex wy ⟨rfl,hb⟩;exact ⟨_,rfl,_,rfl,rfl,hW.trans (hb.mono hsz),hb⟩
  | 6,_,aB=>
   cases aB;have f0:=gT (hpre ⟨0,.data⟩ (by simp) (by rfl) _ _ rfl rfl);have f5:=gT (hpre ⟨5,.data⟩ (by simp) (by rfl) _ _ rfl rfl);refine aF (by simp [execOp,Act.eval,f0,f5,go_sem]) ((JB bd (dn*(2*k)) hb0 hbP hdk0 hdk W).mono ?_);rintro ex wy ⟨rfl,hb⟩;exact ⟨_,rfl,_,rfl,rfl,hW.trans (hb.mono hsz),hb⟩
  | 7,_,aB=>
   cases aB;have f6:=gT (hpre ⟨6,.data⟩ (by simp) (by rfl) _ _ rfl rfl);exact au (w':=W) (by simp [execOp,Act.eval,f6,go_sem]) (aR hW)
  | 8,_,aB=>
   cases aB;have f7:=gT (hpre ⟨7,.data⟩ (by simp) (by rfl) _ _ rfl rfl);exact au (w':=W) (by simp [execOp,Act.eval,f7,go_sem]) (aR hW)
  | ix+9,hi,_=>exact absurd hi (by omega)
 ·intro ax W hsh hW hφ;have e0:=hφ 0 _ _ (by omega) rfl rfl;have e1:=hφ 1 _ _ (by omega) rfl rfl;have e2:=hφ 2 _ _ (by omega) rfl rfl;have e3:=hφ 3 _ _ (by omega) rfl rfl;obtain ⟨b4,e4,hb4,hl4,hc4⟩:=hφ 4 _ _ (by omega) rfl rfl;have e5:=hφ 5 _ _ (by omega) rfl rfl;have e6:=hφ 6 _ _ (by omega) rfl rfl;have e7:=hφ 7 _ _ (by omega) rfl rfl;have e8:=hφ 8 _ _ (by omega) rfl rfl;rw [aZ hsh [(5,_),(6,_),(7,_),(8,_),(9,_),(10,_),(11,_),(12,_),(4,_)] [5,6,7,8,9,10,11,12,4] rfl (by kernel_rfl) ⟨e0,e1,e2,e3,e4,e5,e6,e7,e8,trivial⟩];clear hφ hsh e0 e1 e2 e3 e4 e5 e6 e7 e8;clear hc4;simp only [bZ,List.foldl_cons,List.foldl_nil,List.drop_succ_cons,List.drop_zero,Act.put,List.setIfInBounds_toArray,List.set_cons_succ,List.set_cons_zero];have gV:=ah hW;clear hW;go_wp2_with fail;go_ret;exact ⟨rfl,gV.out⟩
theorem G6 (pb qb mb:Nat) (bd dn m k:Int) (w:World) (hp:aG w pb 88 #[.int .u64 (hw 0 bd),.int .u64 (hw 1 bd),.int .u64 (hw 2 bd),.int .u64 (hw 3 bd),.int .u64 (hw 4 bd),.int .u64 (hw 5 bd)]) (hq:aG w qb 88 #[.int .u64 (hw 0 dn),.int .u64 (hw 1 dn),.int .u64 (hw 2 dn),.int .u64 (hw 3 dn),.int .u64 (hw 4 dn),.int .u64 (hw 5 dn)]) (hm:aG w mb 88 #[.int .u64 (hw 0 m),.int .u64 (hw 1 m),.int .u64 (hw 2 m),.int .u64 (hw 3 m),.int .u64 (hw 4 m),.int .u64 (hw 5 m)]) (hb0:0≤bd) (hbP:bd<bB 6) (hd0:0≤dn) (Du:dn≤1000000000000000000000000000000000000000000000000000000000000000000000000) (hm0:0≤m) (hm9:m≤1000000000000000000000000000000000000000000000000000000000000000000000000*131070) (k0:0≤k) (k1:k≤65535) :
  Calls Tryz.prog 71 #[.int .i64 k,.pointer (some ⟨pb,0,none⟩),.pointer (some ⟨qb,0,none⟩),.pointer (some ⟨mb,0,none⟩)] w fun e w'=>e=.returned (.bool (!decide (bd<dn*(2*k)+m)))∧Below w.heap.size w w':=by
 have hbig:=kT;have hdP:dn<bB 6:=by omega
 have EN:0≤2*k:=by omega
 have hk29:2*k≤9223372036854775807:=by omega
 have hdk0:0≤dn*(2*k):=Int.mul_nonneg hd0 EN;have hdm:dn*(2*k)≤1000000000000000000000000000000000000000000000000000000000000000000000000*131070:=(dA (a:=dn) (b:=2*k) (A:=1000000000000000000000000000000000000000000000000000000000000000000000000) (B:=131070) hd0 EN Du (by omega)).2;have hdk:dn*(2*k)<bB 6:=by omega
 have aw:IntKind.i64.wrap (2*k)=2*k:=IntWalk.i64_in _ (by omega);have hs0:0≤dn*(2*k)+m:=by omega
 have hsP:dn*(2*k)+m<bB 6:=by omega
 have HM:=ah hm;have HP:=ah hp;have HQ:=ah hq;clear hp hq hm hbig hdm;go_enter Tryz.func71,Tryz.ntmps71;go_upto_region 1 with fail;refine aV (by kernel_rfl) 11 (by simp) (by kernel_rfl) (by kernel_rfl) (by kernel_rfl) (by kernel_rfl) (fun jx vx wx=>match jx with | 0=>vx=(.agg #[.int .u64 (hw 0 bd),.int .u64 (hw 1 bd),.int .u64 (hw 2 bd),.int .u64 (hw 3 bd),.int .u64 (hw 4 bd),.int .u64 (hw 5 bd)]) | 1=>vx=(.agg #[.int .u64 (hw 0 dn),.int .u64 (hw 1 dn),.int .u64 (hw 2 dn),.int .u64 (hw 3 dn),.int .u64 (hw 4 dn),.int .u64 (hw 5 dn)]) | 2=>vx=(.int .i64 k) | 3=>vx=(.int .i64 (2*k)) | 4=>eT w.heap.size vx (.int .i64 (2*k)) wx | 5=>vx=(.agg #[.int .u64 (hw 0 (dn*(2*k))),.int .u64 (hw 1 (dn*(2*k))),.int .u64 (hw 2 (dn*(2*k))),.int .u64 (hw 3 (dn*(2*k))),.int .u64 (hw 4 (dn*(2*k))),.int .u64 (hw 5 (dn*(2*k)))]) | 6=>vx=(.agg #[.int .u64 (hw 0 m),.int .u64 (hw 1 m),.int .u64 (hw 2 m),.int .u64 (hw 3 m),.int .u64 (hw 4 m),.int .u64 (hw 5 m)]) | 7=>vx=(.agg #[.int .u64 (hw 0 (dn*(2*k)+m)),.int .u64 (hw 1 (dn*(2*k)+m)),.int .u64 (hw 2 (dn*(2*k)+m)),.int .u64 (hw 3 (dn*(2*k)+m)),.int .u64 (hw 4 (dn*(2*k)+m)),.int .u64 (hw 5 (dn*(2*k)+m))]) | 8=>vx=(.bool (decide (bd<dn*(2*k)+m))) | 9=>vx=(.bool (!decide (bd<dn*(2*k)+m))) | 10=>vx=(.bool (!decide (bd<dn*(2*k)+m))) | _=>True) (fun W=>Below w.heap.size w W) (fun wx wy=>Below wx.heap.size wx wy) (Below.refl _ _).drew ?_ ?_ ?_ ?_
 ·intro jx vx wx wy h g
  match jx,h with
  | 0,h | 1,h | 2,h | 3,h | 5,h | 6,h | 7,h | 8,h | 9,h | 10,h=>exact h
  | 4,h=>exact eT.up h g
  | jx+11,h=>exact trivial
 ·intro jx ox dx hj ho hd;exact bN (by kernel_rfl) hj ho hd
 ·intro ix ox ax W hi aB hsh hW hpre;have hsz:w.heap.size≤W.heap.size:=hW.size;have GA:∀ob,Below W.heap.size W (W.alloc ob):=fun ob=>(Below.refl _ _).alloc (Nat.le_refl _) ob;have WA:∀ob,Below w.heap.size w (W.alloc ob):=fun ob=>hW.alloc hsz ob;have t0:ax.tmps[0]?.getD undef=(.int .i64 k):=gT (hsh.2.2 0 (aL (by kernel_rfl)));have t1:ax.tmps[1]?.getD undef=(.pointer (some ⟨pb,0,none⟩)):=gT (hsh.2.2 1 (aL (by kernel_rfl)));have t2:ax.tmps[2]?.getD undef=(.pointer (some ⟨qb,0,none⟩)):=gT (hsh.2.2 2 (aL (by kernel_rfl)));have t3:ax.tmps[3]?.getD undef=(.pointer (some ⟨mb,0,none⟩)):=gT (hsh.2.2 3 (aL (by kernel_rfl)));obtain ⟨h0,h1,h2,h3,h4,h5⟩:=bF (HP.out.below hW);obtain ⟨g0,g1,g2,g3,g4,g5⟩:=bF (HQ.out.below hW);obtain ⟨e0,e1,e2,e3,e4,e5⟩:=bF (HM.out.below hW);clear hsh
  match ix,hi,aB with
  | 0,_,aB=>
   cases aB;exact au (w':=W) (by simp [execOp,Act.eval,t1,h0,h1,h2,h3,h4,h5,go_sem]) (aR hW)
  | 1,_,aB=>
   cases aB;exact au (w':=W) (by simp [execOp,Act.eval,t2,g0,g1,g2,g3,g4,g5,go_sem]) (aR hW)
  | 2,_,aB=>
   cases aB;exact au (w':=W) (by simp [execOp,Act.eval,t0,go_sem]) (aR hW)
  | 3,_,aB=>
   cases aB;have f2:=gT (hpre ⟨2,.data⟩ (by simp) (by rfl) _ _ rfl rfl);exact au (w':=W) (by simp [execOp,Act.eval,aw,f2,go_sem]) (aR hW)
  | 4,_,aB=>
   cases aB;have f3:=gT (hpre ⟨3,.data⟩ (by simp) (by rfl) _ _ rfl rfl);exact au (v:=.slice (some ⟨W.heap.size,0,none⟩) 1 1) (w':=W.alloc (.cells #[.int .i64 (2*k)] 3)) (by simp [execOp,Act.eval,f3,go_sem]) ⟨_,rfl,eT.new _ _ hsz,WA _,GA _⟩
  | 5,_,aB=>
   cases aB;have f1:=gT (hpre ⟨1,.data⟩ (by simp) (by rfl) _ _ rfl rfl);have p4:=hpre ⟨4,.data⟩ (by simp) (by rfl) _ _ rfl rfl;obtain ⟨b4,e4,hb4,hl4,hc4⟩:=p4;have f4:=(Array.getD_eq_getD_getElem? ..).symm.trans e4;refine aF (by simp [execOp,Act.eval,f1,f4,go_sem]) ((fC dn (2*k) b4 W hd0 EN hk29 hdP hdk hl4 hc4).mono ?_);rintro ex wy ⟨rfl,hb⟩;exact ⟨_,rfl,_,rfl,rfl,hW.trans (hb.mono hsz),hb⟩
  | 6,_,aB=>
   cases aB;exact au (w':=W) (by simp [execOp,Act.eval,t3,e0,e1,e2,e3,e4,e5,go_sem]) (aR hW)
  | 7,_,aB=>
   cases aB;have f5:=gT (hpre ⟨5,.data⟩ (by simp) (by rfl) _ _ rfl rfl);have f6:=gT (hpre ⟨6,.data⟩ (by simp) (by rfl) _ _ rfl rfl);refine aF (by simp [execOp,Act.eval,f5,f6,go_sem]) ((zA (dn*(2*k)) m hdk0 hm0 hsP W).mono ?_);rintro ex wy ⟨rfl,hb⟩;exact ⟨_,rfl,_,rfl,rfl,hW.trans (hb.mono hsz),hb⟩
  | 8,_,aB=>
   cases aB;have f0:=gT (hpre ⟨0,.data⟩ (by simp) (by rfl) _ _ rfl rfl);have f7:=gT (hpre ⟨7,.data⟩ (by simp) (by rfl) _ _ rfl rfl);refine aF (by simp [execOp,Act.eval,f0,f7,go_sem]) ((JB bd (dn*(2*k)+m) hb0 hbP hs0 hsP W).mono ?_);rintro ex wy ⟨rfl,hb⟩;exact ⟨_,rfl,_,rfl,rfl,hW.trans (hb.mono hsz),hb⟩
  | 9,_,aB=>
   cases aB;have f8:=gT (hpre ⟨8,.data⟩ (by simp) (by rfl) _ _ rfl rfl);exact au (w':=W) (by simp [execOp,Act.eval,f8,go_sem]) (aR hW)
  | 10,_,aB=>
   cases aB;have f9:=gT (hpre ⟨9,.data⟩ (by simp) (by rfl) _ _ rfl rfl);exact au (w':=W) (by simp [execOp,Act.eval,f9,go_sem]) (aR hW)
  | ix+11,hi,_=>exact absurd hi (by omega)
 ·intro ax W hsh hW hφ;have e0:=hφ 0 _ _ (by omega) rfl rfl;have e1:=hφ 1 _ _ (by omega) rfl rfl;have e2:=hφ 2 _ _ (by omega) rfl rfl;have e3:=hφ 3 _ _ (by omega) rfl rfl;obtain ⟨b4,e4,hb4,hl4,hc4⟩:=hφ 4 _ _ (by omega) rfl rfl;have e5:=hφ 5 _ _ (by omega) rfl rfl;have e6:=hφ 6 _ _ (by omega) rfl rfl;have e7:=hφ 7 _ _ (by omega) rfl rfl;have e8:=hφ 8 _ _ (by omega) rfl rfl;have e9:=hφ 9 _ _ (by omega) rfl rfl;have e10:=hφ 10 _ _ (by omega) rfl rfl;rw [aZ hsh [(6,_),(7,_),(8,_),(9,_),(10,_),(11,_),(12,_),(13,_),(14,_),(15,_),(5,_)] [6,7,8,9,10,11,12,13,14,15,5] rfl (by kernel_rfl) ⟨e0,e1,e2,e3,e4,e5,e6,e7,e8,e9,e10,trivial⟩];clear hφ hsh e0 e1 e2 e3 e4 e5 e6 e7 e8 e9 e10;clear hc4;simp only [bZ,List.foldl_cons,List.foldl_nil,List.drop_succ_cons,List.drop_zero,Act.put,List.setIfInBounds_toArray,List.set_cons_succ,List.set_cons_zero];have gV:=ah hW;clear hW;go_wp2_with fail;go_ret;exact ⟨rfl,gV.out⟩
end Go.Proofs.YtopmdeefcjdadaaGreat
