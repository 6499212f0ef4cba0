import Derived.Test.YtopmdeefcjdadaaGreatT42M00
import Derived.Test.YtopmdeefcjdadaaGreatT42M06
import Derived.Test.YtopmdeefcjdadaaGreatT42M18
import Derived.Test.YtopmdeefcjdadaaGreatT42M12
import Derived.Test.YtopmdeefcjdadaaGreatT42M03
import Derived.Test.YtopmdeefcjdadaaGreatT42M11
import Derived.Test.YtopmdeefcjdadaaGreatT42M13
import Derived.Deep.RegionHeld3
set_option linter.unusedVariables false
set_option linter.unusedSimpArgs false
set_option maxRecDepth 100000
set_option maxHeartbeats 32000000
namespace Go.Proofs.YtopmdeefcjdadaaGreat
open Go.RowKit
def dfFn (tb:Nat):Value:=.func (.func 36) #[] #[.pointer (some ⟨tb,0,none⟩)]
theorem Ro (pn:ByteArray) (pz:Int) (po:Option Addr) (pl pc:Nat) (nm:ByteArray) (tb:Nat) (w:World) (ht:w.cell? ⟨tb,1,none⟩=some (.string nm)) (hb:tb<w.heap.size) :
  Calls Tryz.prog 36 #[.agg #[.string pn,.int .i64 pz,.slice po pl pc],.pointer (some ⟨tb,0,none⟩)] w fun e w'=>e=.returned (.bool (decide (pn.data.toList=nm.data.toList)))∧Below w.heap.size w w':=by
 by_cases hc:pn.data.toList=nm.data.toList
 ·have h2:(pn.toList==nm.toList)=true:=by rw [Lib.toList_data,Lib.toList_data];simpa using hc
  have HV:=ah (show decide (pn.data.toList=nm.data.toList)=true by simpa using hc);clear hc;go_enter Tryz.func36,Tryz.ntmps36;go_wp2
  go_ret;exact ⟨by rw [HV.out]<;>rfl,(Below.refl _ _).alloc (Nat.le_refl _) _⟩
 ·have h2:(pn.toList==nm.toList)=false:=by rw [Lib.toList_data,Lib.toList_data];simpa using hc
  have HV:=ah (show decide (pn.data.toList=nm.data.toList)=false by simpa using hc);go_enter Tryz.func36,Tryz.ntmps36;go_wp2
  go_ret;exact ⟨by rw [HV.out]<;>rfl,(Below.refl _ _).alloc (Nat.le_refl _) _⟩
theorem Nu (args:Array Value) (W:World):Sem.run Tryz.prog (callFunc 36 args) W=.ok (.enter 36 args) W:=by simp [go_sem]
theorem Nr (v:Value) (l:List Prf) (nm:ByteArray) (tb:Nat) (w:World) (h:jD w.heap.size w v l) (ht:w.cell? ⟨tb,1,none⟩=some (.string nm)) (hb:tb<w.heap.size) :
  Calls Tryz.prog 35 #[v,dfFn tb] w fun e w'=>e=.returned (.int .i64 (fQ (dK nm.data.toList) l 0))∧Below w.heap.size w w':=by
 have HG:=ah (jD.get h);obtain ⟨lv,hlv,hcs,_⟩:=h;obtain ⟨ao,cap,rfl,_⟩:=aW.shape hcs;have hm:=aW.len hcs;rw [show lv.length=l.length by rw [←hlv];simp] at *;clear hcs hlv;unfold maxLen at hm;have CF:=ah (fun (pn:ByteArray) (pz:Int) (po:Option Addr) (pl pc:Nat) W (hB:Below w.heap.size w W)=>Ro pn pz po pl pc nm tb W ((hB.cell (p:=⟨tb,1,none⟩) hb).trans ht) (Nat.lt_of_lt_of_le hb hB.size));have hcf:=Nu;have HC:=ah (show fQ (dK nm.data.toList) l 0=fQ (dK nm.data.toList) (l.drop 0) 0 by simp);generalize fQ (dK nm.data.toList) l 0=RES at *;clear ht;unfold dfFn;go_enter Tryz.func35,Tryz.ntmps35;go_wp2_with fail;go_loopw [8] (fun i wr=>∃k:Nat,k≤l.length∧i=.int .i64 k∧Hid (RES=fQ (dK nm.data.toList) (l.drop k) k)∧Hid (Below w.heap.size w wr)) (fun i _=>l.length-(intOf i).toNat)
 case atStart=>exact ⟨0,Nat.zero_le _,rfl,HC,ah (Below.refl _ _)⟩
 case round=>
  obtain ⟨k,hk,rfl,HR,bA⟩:=hrel;by_cases hlt:k<l.length
  ·obtain ⟨b,off,cap',hsl,hbb,_,hc⟩:=HG.out (by omega);injection hsl with hs1 hs2 hs3;subst hs1 hs3;obtain ⟨pv,hpv,hcc⟩:=hc k hlt;obtain ⟨d0,d1,d2⟩:=hcc wr bA.out;have hbr:b<wr.heap.size:=by have:=bA.out.size;omega
   have HY:=ah (oV (dK nm.data.toList) l k hlt);have HN:=ah (tu (dK nm.data.toList) l k hlt);have HT:=ah (show dK nm.data.toList l[k]=decide (l[k].name.data.toList=nm.data.toList) from rfl);obtain ⟨lv,hlv,hcs,_⟩:=hpv;obtain ⟨po,jr,rfl,_⟩:=aW.shape hcs;clear hc hcc hcs hlv;generalize dK nm.data.toList l[k]=T at *;generalize kC:l[k]=rk at *;clear kC;obtain ⟨pn,pz,pl⟩:=rk;simp only at *;have CX:=ah (CF.out pn pz po lv.length jr _ bA.out);rw [←HT.out] at CX;cases T
   ·have HV:=ah (HR.out.trans (HN.out rfl));go_wp2_with fail;refine CX.out.mono ?_;rintro e w1 ⟨rfl,hb1⟩;have HB2:=ah (bA.out.trans (hb1.mono bA.out.size));clear hb1;go_wp2_with fail;go_roundw
    case rel=>exact ⟨k+1,by omega,by go_num,HV,HB2⟩
    case measure=>simp [intOf];omega
   ·have HV:=ah (HR.out.trans (HY.out rfl));go_wp2_with fail;refine CX.out.mono ?_;rintro e w1 ⟨rfl,hb1⟩;have HB2:=ah (bA.out.trans (hb1.mono bA.out.size));clear hb1;go_wp2_with fail;go_ret;exact ⟨by rw [HV.out]<;>rfl,HB2.out⟩
  ·have HV:=ah (show RES=-1 by rw [HR.out,oW _ l k (by omega)]);have hkk:k=l.length:=by omega
   subst hkk;go_wp2_with fail;go_ret;exact ⟨by rw [HV.out]<;>rfl,bA.out⟩
theorem D9 (x:iK) (lv uv:Value) (w:World) (h:kV w.heap.size w x lv uv) (hf:uO x) (hx:bR x=0) :
  Calls Tryz.prog 13 #[mG lv uv] w fun e w'=>∃mb,e=.returned (.map (some mb))∧w.heap.size≤mb∧dZ w' mb 16000 (nS x)∧Below w.heap.size w w':=by
 have HU:=ah (qH.get h.aF);have HL:=ah (jD.get h.lib);have HLS:=ah (fun W (hb:Below w.heap.size w W)=>(h.lib.below hb).more hb.size);have vS:=ah (fun (u:gX) (hu:u∈x.aF)=>wU hx hu);have HAS:=ah (xM hx);have HFU:=ah hf.2;have HFL:=ah hf.1;have HUL:=ah (jk hx).2.1;have HPF:=ah (fun (p:Prf) (hp:p∈x.lib)=>(oh (qE (jk hx).1 hp)).2.2.2.2);have hml:=aW.len h.aF;unfold maxLen at hml;obtain ⟨uo,dR,rfl,_⟩:=aW.shape h.aF;obtain ⟨lo,dU,rfl⟩:=iH h.lib;have HIX:=ah (fun (nm:List UInt8)=>lC (dK nm) x.lib);unfold mG at *;clear h hf hx;have HT:=ah (aH.new w #[.slice lo x.lib.length dU,.slice uo x.aF.length dR] 25);have HB:=ah ((Below.refl w.heap.size w).alloc (Nat.le_refl _) (.cells #[.slice lo x.lib.length dU,.slice uo x.aF.length dR] 25));have HM:=ah (show dZ ((w.alloc (.cells #[.slice lo x.lib.length dU,.slice uo x.aF.length dR] 25)).alloc (.map #[] 0)) (w.heap.size+1) 0 (Oi x 0) from (by simpa using Cq (w.alloc (.cells #[.slice lo x.lib.length dU,.slice uo x.aF.length dR] 25)) :dZ ((w.alloc (.cells #[.slice lo x.lib.length dU,.slice uo x.aF.length dR] 25)).alloc (.map #[] 0)) (w.heap.size+1) 0 (fun _=>none)).cast (fun k _=>Rl x k));go_enter Tryz.func13,Tryz.ntmps13;have hmm:=@run_makeMap Tryz.prog;go_wp2_with fail;clear hmm;go_loopw [13] (fun i wx=>∃k:Nat,k≤x.aF.length∧i=.int .i64 k∧Hid (aH wx w.heap.size 25 #[.slice lo x.lib.length dU,.slice uo x.aF.length dR])∧Hid (Below w.heap.size w wx)∧Hid (dZ wx (w.heap.size+1) (40*k) (Oi x k))) (fun i _=>x.aF.length-(intOf i).toNat)
 case atStart=>exact ⟨0,Nat.zero_le _,rfl,ah (HT.out.alloc _),ah (HB.out.alloc HB.out.size _),HM⟩
 case round=>
  clear HT HB HM;obtain ⟨k,hk,rfl,HT,HB,HM⟩:=hrel;by_cases hlt:k<x.aF.length
  ·obtain ⟨b,off,cap',hsl,hbb,_,hc⟩:=HU.out (by omega);injection hsl with hs1 hs2 hs3;subst hs1 hs3;obtain ⟨d0,d1,d2,d3⟩:=hc k hlt wr HB.out;have hbr:b<wr.heap.size:=by have:=HB.out.size;omega
   obtain ⟨p,hp,hp40,_⟩:=vS.out _ (List.getElem_mem hlt);have HFK:=ah (HFU.out _ (List.getElem_mem hlt));have HS0:=ah (Ns HAS.out hlt p.iY);have HE0:=ah (dfP_end HAS.out hlt hp)
   obtain ⟨q,hq1,hq2,hq3⟩:∃q,∃hq:q<x.lib.length,fQ (dK x.aF[k].nm) x.lib 0=(q:Int)∧x.lib[q]=p:=by
    have hp':x.lib.find? (dK x.aF[k].nm)=some p:=hp;rcases HIX.out x.aF[k].nm with ⟨_,h2⟩ | ⟨q,hq,h1,h2⟩
    ·rw [h2] at hp';cases hp'
    ·rw [h2] at hp';exact ⟨q,hq,h1,Option.some.inj hp'⟩
   have JV:=ah (HPF.out p (lN hp).1);have HFP:=ah ((HFL.out p (lN hp).1).2.2);have HIQ:=ah hq2;obtain ⟨b2,off2,cap2,hsl2,hbb2,_,hc2⟩:=HL.out (by omega);injection hsl2 with hs1 hs2 hs3;subst hs1 hs3;obtain ⟨pv,hpv,hcl⟩:=hc2 q hq1;rw [hq3] at hpv hcl;have HG:=ah (jI.get hpv)
   obtain ⟨po,jr,rfl⟩:∃ao cap,pv=.slice ao p.iY.length cap:=by
    obtain ⟨lv,h1,h2,_⟩:=hpv;obtain ⟨ao,cap,rfl,_⟩:=aW.shape h2;exact ⟨ao,cap,by rw [←h1];simp⟩
   have K5:=ah hcl;clear hc hc2 hcl hpv hq2 hq3 hp;have hnm:x.aF[k].nm=x.aF[k].zQ.data.toList:=rfl;rw [hnm] at HIQ;clear hnm;generalize kC:x.aF[k]=rk at *;clear kC;obtain ⟨un,up,uu,ua⟩:=rk;simp only at *;have HT1:=ah (HT.out.alloc (.cells #[.int .i64 un,.string up,.int .i64 uu,.int .i64 ua] 67));have HB1:=ah (HB.out.alloc HB.out.size (.cells #[.int .i64 un,.string up,.int .i64 uu,.int .i64 ua] 67));have HU1:=ah (show aH (wr.alloc (.cells #[.int .i64 un,.string up,.int .i64 uu,.int .i64 ua] 67)) wr.heap.size 67 #[.int .i64 un,.string up,.int .i64 uu,.int .i64 ua] from aH.new wr _ _);have yU:=ah (HM.out.alloc (.cells #[.int .i64 un,.string up,.int .i64 uu,.int .i64 ua] 67));have CX:=ah (Nr (.slice (some ⟨b2,off2,none⟩) x.lib.length dU) x.lib up wr.heap.size (wr.alloc (.cells #[.int .i64 un,.string up,.int .i64 uu,.int .i64 ua] 67)) (HLS.out _ HB1.out) (HU1.out.cell (i:=1) rfl) (by simp));unfold dfFn at CX;rw [HIQ.out] at CX;have g0:=HT.out.cell (i:=0) rfl;have gl:=HT.out.lt;clear HIQ;go_wp2_with fail;refine CX.out.mono ?_;rintro e w3 ⟨rfl,hb⟩;have HT3:=ah (HT1.out.below hb);have HB3:=ah (HB1.out.trans (hb.mono HB1.out.size));have HU3:=ah (HU1.out.below hb);have HM3:=ah (yU.out.below hb);have HB1S:=ah (show w.heap.size+1<wr.heap.size from HM.out.lt);clear hb g0 gl CX HT HB HM HT1 HB1 HU1 yU d0 d1 d2 d3;have g0:=HT3.out.cell (i:=0) rfl;have gl:=HT3.out.lt;obtain ⟨c0,c1,c2⟩:=K5.out w3 HB3.out;have hb2l:b2<w3.heap.size:=by have:=HB3.out.size;omega
   have hql:(q:Int)<(x.lib.length:Int):=by omega
   go_wp2_with fail;clear g0 gl c0 c1 c2 K5 hb2l;go_loopw [28] (fun i wx=>∃j:Nat,j≤p.iY.length∧i=.int .i64 j∧Hid (aH wx w.heap.size 25 #[.slice (some ⟨b2,off2,none⟩) x.lib.length dU,.slice (some ⟨b,off,none⟩) x.aF.length dR])∧Hid (Below w.heap.size w wx)∧Hid (aH wx wr.heap.size 67 #[.int .i64 un,.string up,.int .i64 uu,.int .i64 ua])∧Hid (dZ wx (w.heap.size+1) (40*k+j) (dfP x k ⟨un,up,uu,ua⟩ p.iY j))) (fun i _=>p.iY.length-(intOf i).toNat)
   case atStart=>exact ⟨0,Nat.zero_le _,rfl,HT3,HB3,HU3,ah (HM3.out.cast (fun key _=>HS0.out key))⟩
   case round=>
    clear HT3 HB3 HU3 HM3;obtain ⟨j,hj,rfl,HT,HB,HU4,HM⟩:=hrel;obtain ⟨g0,g1,g2,g3⟩:_∧_∧_∧_:=⟨HU4.out.cell (i:=0) rfl,HU4.out.cell (i:=1) rfl,HU4.out.cell (i:=2) rfl,HU4.out.cell (i:=3) rfl⟩;have gl:=HU4.out.lt;have el:=HT.out.lt;by_cases hjl:j<p.iY.length
    ·obtain ⟨b3,off3,nI,hsl,hbb3,_,hc⟩:=HG.out (by omega);injection hsl with hs1 hs2 hs3;subst hs1 hs3;obtain ⟨rv,tX,hcc⟩:=hc j hjl;obtain ⟨d0,d1,d2,d3,d4,d5,d6⟩:=hcc wr HB.out;have hbr3:b3<wr.heap.size:=by have:=HB.out.size;omega
     have HPJ:=ah (HFP.out _ (List.getElem_mem hjl));have HST:=ah (Rm (r:=x) (k:=k) (u:=⟨un,up,uu,ua⟩) hjl (sZ (fP _ _ JV.out j hjl)).2.1);obtain ⟨qo,qc,hrv2⟩:=qj tX;generalize hql2:p.iY[j].pY.length=ql at *;subst hrv2;clear hc hcc tX;generalize kC:p.iY[j]=rk at *;clear kC hql2;obtain ⟨qn,qg,qs,qf,qd,qb,qr⟩:=rk;simp only at *;have Ot:=ah (show jE (un,qn) from ⟨HFK.out.1,HPJ.out.2.2.2.2.1⟩);obtain ⟨wz,hup,hM,hg⟩:=(HM.out.alloc (.cells #[.string qn,.int .i64 qg,.int .i64 qs,.int .i64 qf,.int .i64 qd,.bool qb,.slice qo ql qc] 81)).put Ot.out qd (by have:=HUL.out;unfold maxLen;omega);have HTZ:=ah ((HT.out.alloc (.cells #[.string qn,.int .i64 qg,.int .i64 qs,.int .i64 qf,.int .i64 qd,.bool qb,.slice qo ql qc] 81)).fE hg (by omega));have HUZ:=ah ((HU4.out.alloc (.cells #[.string qn,.int .i64 qg,.int .i64 qs,.int .i64 qf,.int .i64 qd,.bool qb,.slice qo ql qc] 81)).fE hg (by have:=HB1S.out;omega));have qW:=ah (aY (HB.out.alloc HB.out.size (.cells #[.string qn,.int .i64 qg,.int .i64 qs,.int .i64 qf,.int .i64 qd,.bool qb,.slice qo ql qc] 81)) hg (by have:=HB.out.size;simp;omega) (by omega));have HMZ:=ah (hM.cast (fun key _=>HST.out key));clear hM hg HST HM HT HU4;go_wp2_with fail;go_roundw
     case rel=>exact ⟨j+1,by omega,by first | rfl | go_num,HTZ,qW,HUZ,HMZ⟩
     case measure=>simp [intOf];omega
    ·have hjj:j=p.iY.length:=by omega
     subst hjj;clear g0 g1 g2 g3;go_wp2_with fail;go_roundw
     case rel=>exact ⟨k+1,by omega,by first | rfl | go_num,HT,HB,ah ((HM.out.cast (fun key _=>(HE0.out key).symm)).more (by omega))⟩
     case measure=>simp [intOf];omega
  ·have hkk:k=x.aF.length:=by omega
   subst hkk;have HR:=ah (show dZ wr (w.heap.size+1) 16000 (nS x) by have:=HM.out.more (m':=16000) (by have:=HUL.out;omega);rwa [dfU_all] at this);go_wp2_with fail;go_ret;exact ⟨_,rfl,by omega,HR.out,HB.out⟩
def Qa (r:iK) (aO:List (Int×ByteArray)):Int:=if aO.length=0 then 8 else if 400<aO.length then 2 else bQ (iM r) aO 0
theorem JA (r:iK) (x:Run):dV r x=if pF x.ef≠0 then pF x.ef else if Qa r x.aO≠0 then Qa r x.aO else qV x.aB x.bP x.aN x.aQ x.aJ:=by
 unfold dV Qa sF fi3 ru dN;by_cases h1:pF x.ef=0
 ·by_cases h2:x.aO.length=0
  ·simp [h1,h2]
  ·by_cases h3:400<x.aO.length
   ·simp [h1,h2,h3]
   ·simp [h1,h2,h3]
 ·simp [h1]
theorem JJ {l:List (Int×ByteArray)} {k:Int×ByteArray} {b:Bool} (h:b=true↔k∈l):b=l.any (fun y=>decide (y=k)):=by
 cases b with
 | true=>exact (List.any_eq_true.2 ⟨_,h.1 rfl,by simp⟩).symm
 | false=>
  symm
  rw [List.any_eq_false];intro y hy hd;have:y=k:=by simpa using hd
  subst this;exact absurd (h.2 hy) (by decide)
def Rq (r:iK) (x:Run):Int:=if bR r≠0 then bR r else dV r x
theorem zN (r:iK) (lv uv kv:Value) (aO:List (Int×ByteArray)) (w:World) (h:kV w.heap.size w r lv uv) (hcr:bR r=0) (hf:∀k∈aO,jE k) (hx:KeyS w.heap.size w kv aO) :
  Calls Tryz.prog 26 #[mG lv uv,.bool true,kv] w fun e w'=>e=.returned (.int .i64 (Qa r aO))∧Below w.heap.size w w':=by
 have HG:=ah (fun (h:0<aO.length)=>E9 (yH.of_cells hx) h)
 have CP:=ah (show ∀(u:Int) (s:ByteArray),(u,s)∈aO→∀W,Below w.heap.size w W→Calls Tryz.prog 43 #[.agg #[lv,uv],.agg #[.int .i64 u,.string s]] W fun e w'=>∃qn qg qs qf qd qb qo ql qc,e=.returned (.tuple #[.agg #[.string qn,.int .i64 qg,.int .i64 qs,.int .i64 qf,.int .i64 qd,.bool qb,.slice qo ql qc],.bool (nS r (u,s)).isSome])∧Below W.heap.size W w' from fun u s hk W hb=>by
  refine (wP r lv uv w.heap.size u s W hb.size (h.below hb) hcr (hf _ hk).1).mono ?_;rintro e w' ⟨xv,rfl,hp,hb⟩;obtain ⟨qn,qg,qs,qf,qd,qb,qo,ql,qc,rfl⟩:=uI hp;exact ⟨qn,qg,qs,qf,qd,qb,qo,ql,qc,by rw [show (nS r (u,s)).isSome=(gL r u s.data.toList).isSome from by unfold nS;cases gL r u s.data.toList<;>rfl],hb⟩)
 obtain ⟨ao,cap,rfl,hk1,hk2,_⟩:=hx;unfold maxLen at hk2;have pR:=ah (show aO.length=0→Qa r aO=8 from fun h=>if_pos h);have yC:=ah (show ¬aO.length=0→400<aO.length→Qa r aO=2 from fun h h'=>by unfold Qa;rw [if_neg h,if_pos h']);have Dh:=ah (show ¬aO.length=0→¬400<aO.length→Qa r aO=bQ (iM r) aO 0 from fun h h'=>by unfold Qa;rw [if_neg h,if_neg h']);generalize Qa r aO=RES at *;unfold mG at *;clear h hcr hf
 have BX:=ah (show ∀W,Below (w.heap.size+1) (w.alloc (.cells #[lv,uv] 25)) W→Below w.heap.size w W∧w.heap.size<W.heap.size∧W.cell? ⟨w.heap.size,0,none⟩=some lv∧W.cell? ⟨w.heap.size,1,none⟩=some uv from fun W hW=>by
  have hz:=hW.size;simp at hz;exact ⟨((Below.refl _ _).alloc (Nat.le_refl _) _).trans (hW.mono (by omega)),by omega,(hW.cell (p:=⟨w.heap.size,0,none⟩) (by simp)).trans (by simp [go_sem]),(hW.cell (p:=⟨w.heap.size,1,none⟩) (by simp)).trans (by simp [go_sem])⟩)
 by_cases h0:aO.length=0
 ·have HV:=ah (pR.out h0);have hq0:((aO.length:Int)==0)=true:=by rw [h0];rfl
  clear h0;go_enter Tryz.func26,Tryz.ntmps26;go_wp2_with fail;go_ret;exact ⟨by rw [HV.out]<;>rfl,(Below.refl _ _).alloc (Nat.le_refl _) _⟩
 ·by_cases h4:400<aO.length
  ·have HV:=ah (yC.out h0 h4);have hq0:((aO.length:Int)==0)=false:=by simpa using h0
   go_enter Tryz.func26,Tryz.ntmps26;go_wp2_with fail;go_ret;exact ⟨by rw [HV.out]<;>rfl,(Below.refl _ _).alloc (Nat.le_refl _) _⟩
  ·have HV:=ah (Dh.out h0 h4);have hq0:((aO.length:Int)==0)=false:=by simpa using h0
   have hl4:aO.length≤400:=by omega
   clear pR yC Dh;go_enter Tryz.func26,Tryz.ntmps26;go_wp2_with fail;go_loopw [21] (fun i wr=>∃k:Nat,k≤aO.length∧i=.int .i64 k∧Hid (RES=bQ (iM r) aO k)∧Hid (Below (w.heap.size+1) (w.alloc (.cells #[lv,uv] 25)) wr)) (fun i _=>aO.length-(intOf i).toNat)
   case atStart=>exact ⟨0,Nat.zero_le _,rfl,HV,ah (Below.refl _ _)⟩
   case round=>
    clear HV;obtain ⟨k,hk,rfl,He,bA⟩:=hrel;obtain ⟨hB,hz,r0,r1⟩:=BX.out _ bA.out;by_cases hlt:k<aO.length
    ·obtain ⟨b,off,_,e0,hbb,hc⟩:=HG.out (by omega);injection e0 with e1 _ e3;subst e1 e3;obtain ⟨g1,g2⟩:=Af aO k hlt;have d0:=hc wr hB _ _ g1;have d1:=hc wr hB (k*2+1) _ g2;rw [←Nat.add_assoc] at d1;have hbr:=Nat.lt_of_lt_of_le hbb hB.size;have sN:=ah (fD (iM r) aO k hlt);have iB:=ah (gD (iM r) aO k hlt);have CPX:=ah (CP.out aO[k].1 aO[k].2 (List.getElem_mem hlt));have CT:=ah (fun (m:Int) (s:ByteArray) W (hb:Below w.heap.size w W)=>Ba (some ⟨b,off,none⟩) cap (aO.take k) m s W (LZ k hk (Nat.lt_of_lt_of_le hbb hb.size) (hc W hb)) (by rw [List.length_take];omega));rw [show (aO.take k).length=k by rw [List.length_take];omega] at CT;have eZ:=ah (show iM r (aO.take k) aO[k]=if (nS r (aO[k].1,aO[k].2)).isNone then 8 else if (aO.take k).any (fun y=>decide (y=(aO[k].1,aO[k].2))) then 6 else 0 from rfl);have HB:=ah hB;clear hc hB g1 g2;generalize hkk:aO[k]=kk at *;clear hkk;obtain ⟨k1,k2⟩:=kk;simp only at d0 d1 CPX eZ;generalize iM r (aO.take k) (k1,k2)=FE at *;obtain ⟨fb,hfb⟩:∃b,(nS r (k1,k2)).isSome=b:=⟨_,rfl⟩;have hfn:(nS r (k1,k2)).isNone=!fb:=by rw [←hfb];cases nS r (k1,k2)<;>rfl
     rw [hfb] at CPX;rw [hfn] at eZ;clear hfn hfb;go_wp2_with fail;refine (CPX.out _ (BX.out _ (iL bA.out (by simp) _)).1).mono ?_;rintro e w2 ⟨qn,qg,qs,qf,qd,qb,qo,ql,qc,rfl,hb2⟩;have HW2:=ah (EJ (iL bA.out (by simp) (.cells #[.int .i64 k1,.string k2] 40)) (by simp) hb2);have e0:w2.cell? ⟨wr.heap.size,0,none⟩=some (.int .i64 k1):=(hb2.cell (p:=⟨wr.heap.size,0,none⟩) (by simp)).trans (by simp [go_sem]);have e1:w2.cell? ⟨wr.heap.size,1,none⟩=some (.string k2):=(hb2.cell (p:=⟨wr.heap.size,1,none⟩) (by simp)).trans (by simp [go_sem]);have hz2:wr.heap.size<w2.heap.size:=by have:=hb2.size;simp at this;omega
     clear hb2 CPX r0 r1 d0 d1;have HW3:=ah (iL HW2.out (by simp) (.cells #[.string qn,.int .i64 qg,.int .i64 qs,.int .i64 qf,.int .i64 qd,.bool qb,.slice qo ql qc] 81));go_upto_region 9 with fail;cases fb
     ·have HR8:=ah (show RES=8 by
       have h1:FE=8:=by rw [eZ.out];rfl
       rw [He.out,iB.out (by rw [h1];decide),h1])
      have HB3:=ah (BX.out _ HW3.out).1;go_wp2_with fail;go_ret;exact ⟨by rw [HR8.out]<;>rfl,HB3.out⟩
     ·have JX:=ah (show FE=if (aO.take k).any (fun y=>decide (y=(k1,k2)))=true then 6 else 0 from by rw [eZ.out];rfl);clear eZ;go_upto_region 11 with fail;go_cut [41] (fun s41 wx=>s41=.bool ((aO.take k).any (fun y=>decide (y=(k1,k2))))∧Hid (Below (w.heap.size+1) (w.alloc (.cells #[lv,uv] 25)) wx))
      case first=>
       have hwd:=HW3.out.drew;have hkc:¬cap<k:=by omega
       go_region_with (first | (go_at_call 60;((with_reducible refine (CT.out _ _ _ (BX.out _ hwd).1).mono ?_);rintro e w4 ⟨⟨bb,rfl,hbb2⟩,hb4⟩;have nM:=ah (JJ hbb2);have HW4:=ah (EJ hwd (by simp) hb4);clear hbb2 hb4)) | fail)
       all_goals go_wp2_with fail
       all_goals go_meet
       all_goals exact ⟨by rw [nM.out],HW4⟩
      case rest=>
       obtain ⟨rfl,HW5⟩:=hcut;have nU:=ah (BX.out _ HW5.out).1;generalize ((aO.take k).any (fun y=>decide (y=(k1,k2))))=bb at *;cases bb
       ·have uU:=ah (show RES=bQ (iM r) aO (k+1) by rw [He.out,sN.out (by rw [JX.out];rfl)]);go_wp2_with fail;go_roundw
        case rel=>exact ⟨k+1,by omega,by go_num,uU,HW5⟩
        case measure=>simp [intOf];omega
       ·have Bw:=ah (show RES=6 by
         have h1:FE=6:=by rw [JX.out];rfl
         rw [He.out,iB.out (by rw [h1];decide),h1])
        go_wp2_with fail;go_ret;exact ⟨by rw [Bw.out]<;>rfl,nU.out⟩
    ·have AL:=ah (show RES=0 by rw [He.out,gB _ _ _ (by omega)]);have nU:=ah hB;go_wp2_with fail;go_ret;exact ⟨by rw [AL.out]<;>rfl,nU.out⟩
theorem A8 (r:iK) (lv uv:Value) (x:Run) (sv kv rv:Value) (w:World) (h:kV w.heap.size w r lv uv) (hrf:uO r) (hx:lY w.heap.size w x sv kv rv) (hf:nK x) :
  Calls Tryz.prog 8 #[mG lv uv,uE x sv kv rv] w fun e w'=>e=.returned (.int .i64 (Rq r x))∧Below w.heap.size w w':=by
 have CR:=ah (fun W (hb:Below w.heap.size w W)=>zI r lv uv W ((h.below hb).more hb.size) hrf)
 have CE:=ah (show ∀W,Below w.heap.size w W→Calls Tryz.prog 25 #[.agg #[.int .i64 x.ef.aK,.int .i64 x.ef.low,.int .i64 x.ef.aD,.int .i64 x.ef.aA,.int .i64 x.ef.ay,.int .i64 x.ef.ak,.bool x.ef.aI,.bool x.ef.rel,sv]] W fun e w'=>e=.returned (.int .i64 (pF x.ef))∧Below W.heap.size W w' from fun W hb=>by
  have hs:=(hx.jV.below hb).more hb.size;obtain ⟨ao,cap,rfl,h1,h2⟩:=hs;exact Dr x.ef.aK x.ef.low x.ef.aD x.ef.aA x.ef.ay x.ef.ak x.ef.aI x.ef.rel ao cap x.ef.jV W (pW ⟨ao,cap,rfl,h1,h2⟩) h1)
 have CK:=ah (fun W (hb:Below w.heap.size w W) (hz:bR r=0)=>zN r lv uv kv x.aO W ((h.below hb).more hb.size) hz hf.2.1 (aW.more (aW.below hx.aO hb) hb.size))
 have CT:=ah (show ∀W,Below w.heap.size w W→Calls Tryz.prog 27 #[uE x sv kv rv] W fun e w'=>e=.returned (.int .i64 (qV x.aB x.bP x.aN x.aQ x.aJ))∧Below W.heap.size W w' from fun W hb=>by
  have hr:=(hx.below hb).more hb.size;obtain ⟨⟨so,cO,rfl,_,_⟩,⟨ko,dG,rfl,_,_⟩,hrr⟩:=hr;obtain ⟨ro,bD,rfl,h1⟩:=hrr;exact yD x.ef.aK x.ef.low x.ef.aD x.ef.aA x.ef.ay x.ef.ak x.aB x.bP x.aN x.aQ x.ef.aI x.ef.rel so ko ro cO dG bD x.ef.jV x.aO x.aJ W ⟨ro,bD,rfl,h1⟩)
 have R4:=ah (JA r x);have qO:=ah (show Rq r x=if bR r≠0 then bR r else dV r x from rfl);clear h hrf hx hf;obtain ⟨⟨aK,low,aD,aA,ay,ak,aI,rel,st⟩,aO,aB,aJ,bP,aN,aQ⟩:=x;simp only [uE,mG] at *;generalize bR r=CRV at *;generalize Rq r _=RES at *;generalize dV r _=CXV at *;generalize pF _=ce at *;generalize Qa r aO=ky at *;generalize qV aB bP aN aQ aJ=tm at *;obtain ⟨w1,hw1⟩:∃w1,w1=((w.alloc (.cells #[lv,uv] 25)).alloc (.cells #[.int .i64 aK,.int .i64 low,.int .i64 aD,.int .i64 aA,.int .i64 ay,.int .i64 ak,.bool aI,.bool rel,sv,kv,.int .i64 aB,rv,.int .i64 bP,.int .i64 aN,.int .i64 aQ] 32)):=⟨_,rfl⟩;have Az:=ah (show aH w1 w.heap.size 25 #[lv,uv] from hw1▸(aH.new w _ _).alloc _);have vY:=ah (show aH w1 (w.heap.size+1) 32 #[.int .i64 aK,.int .i64 low,.int .i64 aD,.int .i64 aA,.int .i64 ay,.int .i64 ak,.bool aI,.bool rel,sv,kv,.int .i64 aB,rv,.int .i64 bP,.int .i64 aN,.int .i64 aQ] from hw1▸(by simpa using aH.new (w.alloc (.cells #[lv,uv] 25)) #[.int .i64 aK,.int .i64 low,.int .i64 aD,.int .i64 aA,.int .i64 ay,.int .i64 ak,.bool aI,.bool rel,sv,kv,.int .i64 aB,rv,.int .i64 bP,.int .i64 aN,.int .i64 aQ] 32));have HB1:=ah (show Below w.heap.size w w1 from hw1▸((Below.refl w.heap.size w).alloc (Nat.le_refl _) _).alloc (by simp) _);go_enter Tryz.func8,Tryz.ntmps8;go_upto_region 1 with fail;rw [←hw1];clear hw1
 have KC:=ah (show ∀W,Below w1.heap.size w1 W→Below w.heap.size w W∧w.heap.size+1<W.heap.size∧(W.cell? ⟨w.heap.size,0,none⟩=some lv∧W.cell? ⟨w.heap.size,1,none⟩=some uv∧W.cell? ⟨w.heap.size+1,0,none⟩=some (.int .i64 aK)∧W.cell? ⟨w.heap.size+1,1,none⟩=some (.int .i64 low)∧W.cell? ⟨w.heap.size+1,2,none⟩=some (.int .i64 aD)∧W.cell? ⟨w.heap.size+1,3,none⟩=some (.int .i64 aA)∧W.cell? ⟨w.heap.size+1,4,none⟩=some (.int .i64 ay)∧W.cell? ⟨w.heap.size+1,5,none⟩=some (.int .i64 ak)∧W.cell? ⟨w.heap.size+1,6,none⟩=some (.bool aI)∧W.cell? ⟨w.heap.size+1,7,none⟩=some (.bool rel)∧W.cell? ⟨w.heap.size+1,8,none⟩=some (sv)∧W.cell? ⟨w.heap.size+1,9,none⟩=some (kv)∧W.cell? ⟨w.heap.size+1,10,none⟩=some (.int .i64 aB)∧W.cell? ⟨w.heap.size+1,11,none⟩=some (rv)∧W.cell? ⟨w.heap.size+1,12,none⟩=some (.int .i64 bP)∧W.cell? ⟨w.heap.size+1,13,none⟩=some (.int .i64 aN)∧W.cell? ⟨w.heap.size+1,14,none⟩=some (.int .i64 aQ)) from fun W hW=>by
  have k0:=Az.out.below hW;have k1:=vY.out.below hW;have kl:=k1.lt;exact ⟨HB1.out.trans (hW.mono HB1.out.size),kl,k0.cell (i:=0) rfl,k0.cell (i:=1) rfl,k1.cell (i:=0) rfl,k1.cell (i:=1) rfl,k1.cell (i:=2) rfl,k1.cell (i:=3) rfl,k1.cell (i:=4) rfl,k1.cell (i:=5) rfl,k1.cell (i:=6) rfl,k1.cell (i:=7) rfl,k1.cell (i:=8) rfl,k1.cell (i:=9) rfl,k1.cell (i:=10) rfl,k1.cell (i:=11) rfl,k1.cell (i:=12) rfl,k1.cell (i:=13) rfl,k1.cell (i:=14) rfl⟩)
 have KM:=ah (show ∀W W',Below w1.heap.size w1 W→Below W.heap.size W W'→Below w1.heap.size w1 W' from fun W W' h1 h2=>h1.trans (h2.mono h1.size));have Oj:=ah (Below.refl w1.heap.size w1);obtain ⟨kb,kl,g0,g1,q0,q1,q2,q3,q4,q5,q6,q7,q8,q9,kS,l7,nk,ow,ou⟩:=KC.out _ Oj.out;have HB:=ah kb;go_wp2_with fail;refine (CR.out _ HB.out).mono ?_;rintro e w2 ⟨rfl,hb⟩;have RG:=ah (KM.out _ _ Oj.out hb);clear hb HB Oj CR;clear kb kl g0 g1 q0 q1 q2 q3 q4 q5 q6 q7 q8 q9 kS l7 nk ow ou;obtain ⟨kb,kl,g0,g1,q0,q1,q2,q3,q4,q5,q6,q7,q8,q9,kS,l7,nk,ow,ou⟩:=KC.out _ RG.out;have HB:=ah kb;by_cases hcr:CRV=0;rotate_left
 ·have HV:=ah (show RES=CRV by rw [qO.out,if_pos hcr]);have hnb:(CRV !=0)=true:=by simp [hcr]
  go_wp2_with fail;go_ret;exact ⟨by rw [HV.out]<;>rfl,HB.out⟩
 have HCY:=ah (show RES=CXV by rw [qO.out,if_neg (by simpa using hcr)]);have CKX:=ah (fun W hb=>CK.out W hb hcr);clear qO CK;subst hcr;go_wp2_with fail;refine (CE.out _ HB.out).mono ?_;rintro e w3 ⟨rfl,hb⟩;have KR3:=ah (KM.out _ _ RG.out hb);clear hb HB RG CE;clear kb kl g0 g1 q0 q1 q2 q3 q4 q5 q6 q7 q8 q9 kS l7 nk ow ou;obtain ⟨kb,kl,g0,g1,q0,q1,q2,q3,q4,q5,q6,q7,q8,q9,kS,l7,nk,ow,ou⟩:=KC.out _ KR3.out;have HB:=ah kb;by_cases h1:ce=0;rotate_left
 ·have HV:=ah (show RES=ce by rw [HCY.out,R4.out,if_pos h1]);have hnb:(ce !=0)=true:=by simp [h1]
  go_wp2_with fail;go_ret;exact ⟨by rw [HV.out]<;>rfl,HB.out⟩
 have HEQ2:=ah (show RES=if ky≠0 then ky else tm by rw [HCY.out,R4.out,if_neg (fun h=>h h1)]);clear R4 HCY;subst h1;go_wp2_with fail;refine (CKX.out _ HB.out).mono ?_;rintro e w4 ⟨rfl,hb⟩;have KR4:=ah (KM.out _ _ KR3.out hb);clear hb HB KR3 CKX;clear kb kl g0 g1 q0 q1 q2 q3 q4 q5 q6 q7 q8 q9 kS l7 nk ow ou;obtain ⟨kb,kl,g0,g1,q0,q1,q2,q3,q4,q5,q6,q7,q8,q9,kS,l7,nk,ow,ou⟩:=KC.out _ KR4.out;have HB:=ah kb;by_cases h2:ky=0;rotate_left
 ·have HV:=ah (show RES=ky by rw [HEQ2.out,if_pos h2]);have hnb:(ky !=0)=true:=by simp [h2]
  go_wp2_with fail;go_ret;exact ⟨by rw [HV.out]<;>rfl,HB.out⟩
 have HV:=ah (show RES=tm by rw [HEQ2.out,if_neg (fun h=>h h2)]);clear HEQ2;subst h2;go_wp2_with fail;refine (CT.out _ HB.out).mono ?_;rintro e w5 ⟨rfl,hb⟩;have HB3:=ah (HB.out.trans (hb.mono HB.out.size));clear hb;go_wp2_with fail;go_ret;exact ⟨by rw [HV.out]<;>rfl,HB3.out⟩
end Go.Proofs.YtopmdeefcjdadaaGreat
