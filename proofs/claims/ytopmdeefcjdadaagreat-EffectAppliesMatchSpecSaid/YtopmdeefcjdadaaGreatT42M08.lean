import Derived.Test.YtopmdeefcjdadaaGreatT42M00
import Derived.Test.YtopmdeefcjdadaaGreatT42M06
import Derived.Test.YtopmdeefcjdadaaGreatT42M07
set_option linter.unusedVariables false
set_option linter.unusedSimpArgs false
set_option maxRecDepth 100000
set_option maxHeartbeats 32000000
namespace Go.Proofs.YtopmdeefcjdadaaGreat
open Go.RowKit
theorem Il (p:jy):(iE p).length≤2:=by unfold iE;split<;>simp
theorem A9 (SL:List Int) (l:List jy) (k:Nat) (h:k<l.length) (h1:∀s∈SL,s∉iy (l.take k)) (h2:∀s∈SL,s∉iE l[k]):∀s∈SL,s∉iy (l.take (k+1)):=by
 intro s hs;rw [BF l k h,List.mem_append];rintro (h3 | h3)
 ·exact h1 s hs h3
 ·exact h2 s hs h3
theorem yj {α:Type} (f:α→List UInt8) (l:List α) (k j:Nat) (h:j<l.length) (hj:j<k) (x:List UInt8) (h2:f l[j]=x):x∈(l.take k).map f:=by
 refine List.mem_map.2 ⟨l[j],?_,h2⟩;have h3:j<(l.take k).length:=by rw [List.length_take];omega
 have h4:(l.take k)[j]=l[j]:=List.getElem_take;rw [←h4];exact List.getElem_mem h3
theorem used_at (l:List jy) (k:Nat) (h:k<l.length) (s:Int) (hs:s∈iE l[k]):s∈iy l:=List.mem_flatMap.2 ⟨_,List.getElem_mem h,hs⟩
theorem Dy (size:Int) (pre:List jy) (x:jy) (po:Option Addr) (jr:Nat) (ro:Option Addr) (bD:Nat) (w:World) (hp:jI w.heap.size w (.slice po pre.length jr) pre) (hpl:pre.length≤100) (hpf:∀q∈pre,0≤q.fine∧q.name.size≤maxLen)
  (hr:nL w.heap.size w (.slice ro x.pY.length bD) x.pY) (hf:uR x) :
  Calls Tryz.prog 105 #[.agg #[.string x.name,.int .i64 x.Oh,.int .i64 x.sl,.int .i64 x.fine,.int .i64 x.dflt,.bool x.snap,.slice ro x.pY.length bD],.slice po pre.length jr,.int .i64 size] w fun e w'=>e=.returned (.int .i64 (kG size pre x))∧Below w.heap.size w w':=by
 have HG:=ah (jI.get hp);have HRG:=ah (nL.get hr);have HPF:=ah hpf;have hrl:=aW.len hr;unfold maxLen at hrl
 have hrc:x.pY.length≤bD∧bD≤9223372036854775807:=by
  obtain ⟨ao',cap',e,h1,h2,_⟩:=hr;injection e with _ _ e3;subst e3;unfold maxLen at h2;exact ⟨h1,by omega⟩
 clear hp hr hpf;obtain ⟨xn,xg,xs,xf,xd,xb,rl⟩:=x;obtain ⟨g0,g1,g2,g3,hns,hfr⟩:=hf;have HFR:=ah hfr;have qJ:=ah hns;have eZ:=ah (show kG size pre ⟨xn,xg,xs,xf,xd,xb,rl⟩=if !eU xn.data.toList then 5 else if xn.data.toList∈pre.map jy.nm then 6 else if !bW xg 1 4 then 4 else if mg size ⟨xn,xg,xs,xf,xd,xb,rl⟩ then 1 else if kH pre ⟨xn,xg,xs,xf,xd,xb,rl⟩ then 12 else gM rl from rfl);have qQ:=ah (show mg size ⟨xn,xg,xs,xf,xd,xb,rl⟩=(!bW xs 1 size||!bW xf 0 size||!bW xd 0 65535) from rfl);have HBF:=ah (show mg size ⟨xn,xg,xs,xf,xd,xb,rl⟩=false→0≤xf from fun h=>(mH h).2.1.1);have K5:=ah (show kH pre ⟨xn,xg,xs,xf,xd,xb,rl⟩=(decide (xs=xf)||decide (xs∈iy pre)||(decide (0<xf)&&decide (xf∈iy pre))) from rfl);have HSL:=ah (show iE ⟨xn,xg,xs,xf,xd,xb,rl⟩=if 0<xf then [xs,xf] else [xs] from rfl);have AJ:=ah (fun W (h:0≤xf)=>zD ⟨xn,xg,xs,xf,xd,xb,rl⟩ ro rl.length bD W h);simp only at *;clear g0 g1 g2 g3 hfr hns;generalize kG size pre ⟨xn,xg,xs,xf,xd,xb,rl⟩=RES at *;generalize mg size ⟨xn,xg,xs,xf,xd,xb,rl⟩=BD at *;generalize kH pre ⟨xn,xg,xs,xf,xd,xb,rl⟩=CL at *;generalize iE ⟨xn,xg,xs,xf,xd,xb,rl⟩=SL at *
 have KC:=ah (show ∀W,Below (w.heap.size+1) (w.alloc (.cells #[.string xn,.int .i64 xg,.int .i64 xs,.int .i64 xf,.int .i64 xd,.bool xb,.slice ro rl.length bD] 81)) W→(Below w.heap.size w W∧w.heap.size<W.heap.size∧W.cell? ⟨w.heap.size,0,none⟩=some (.string xn)∧W.cell? ⟨w.heap.size,1,none⟩=some (.int .i64 xg)∧W.cell? ⟨w.heap.size,2,none⟩=some (.int .i64 xs)∧W.cell? ⟨w.heap.size,3,none⟩=some (.int .i64 xf)∧W.cell? ⟨w.heap.size,4,none⟩=some (.int .i64 xd)∧W.cell? ⟨w.heap.size,5,none⟩=some (.bool xb)∧W.cell? ⟨w.heap.size,6,none⟩=some (.slice ro rl.length bD)) from fun W hW=>by
  have hz:=hW.size;simp at hz;exact ⟨((Below.refl _ _).alloc (Nat.le_refl _) _).trans (hW.mono (by omega)),by omega,(hW.cell (p:=⟨w.heap.size,0,none⟩) (by simp)).trans (by simp [go_sem]),(hW.cell (p:=⟨w.heap.size,1,none⟩) (by simp)).trans (by simp [go_sem]),(hW.cell (p:=⟨w.heap.size,2,none⟩) (by simp)).trans (by simp [go_sem]),(hW.cell (p:=⟨w.heap.size,3,none⟩) (by simp)).trans (by simp [go_sem]),(hW.cell (p:=⟨w.heap.size,4,none⟩) (by simp)).trans (by simp [go_sem]),(hW.cell (p:=⟨w.heap.size,5,none⟩) (by simp)).trans (by simp [go_sem]),(hW.cell (p:=⟨w.heap.size,6,none⟩) (by simp)).trans (by simp [go_sem])⟩)
 have KA:=ah (show ∀W o,Below (w.heap.size+1) (w.alloc (.cells #[.string xn,.int .i64 xg,.int .i64 xs,.int .i64 xf,.int .i64 xd,.bool xb,.slice ro rl.length bD] 81)) W→Below (w.heap.size+1) (w.alloc (.cells #[.string xn,.int .i64 xg,.int .i64 xs,.int .i64 xf,.int .i64 xd,.bool xb,.slice ro rl.length bD] 81)) (W.alloc o) from fun W o h=>h.alloc (by have:=h.size;simp at this;omega) o);have KM:=ah (show ∀W W1,Below (w.heap.size+1) (w.alloc (.cells #[.string xn,.int .i64 xg,.int .i64 xs,.int .i64 xf,.int .i64 xd,.bool xb,.slice ro rl.length bD] 81)) W→Below W.heap.size W W1→Below (w.heap.size+1) (w.alloc (.cells #[.string xn,.int .i64 xg,.int .i64 xs,.int .i64 xf,.int .i64 xd,.bool xb,.slice ro rl.length bD] 81)) W1 from fun W W1 h1 h2=>h1.trans (h2.mono (by have:=h1.size;simp at this;omega)));have HB0:=ah (Below.refl (w.heap.size+1) (w.alloc (.cells #[.string xn,.int .i64 xg,.int .i64 xs,.int .i64 xf,.int .i64 xd,.bool xb,.slice ro rl.length bD] 81)));go_enter Tryz.func105,Tryz.ntmps105;rcases Bool.eq_false_or_eq_true (eU xn.data.toList) with k0 | k0;rotate_left
 ·skip;have HV:=ah (show RES=5 by rw [eZ.out];simp [k0]);go_wp2_with (first | (go_at_call 44;((with_reducible refine (bq _ _).mono ?_);rintro e w' ⟨rfl,rfl⟩)) | (go_at_call 45;((with_reducible refine (aR _ _ _ _).mono ?_);rintro e w' ⟨rfl,rfl⟩)) | (go_at_call 104;((with_reducible refine (dB _ _ (by first | exact qJ.out | exact hns)).mono ?_);rintro e w' ⟨rfl,rfl⟩)) | fail);go_ret;exact ⟨by rw [HV.out]<;>rfl,(KC.out _ HB0.out).1⟩
 have JZ:=ah (show RES=if xn.data.toList∈pre.map jy.nm then 6 else if !bW xg 1 4 then 4 else if BD then 1 else if CL then 12 else gM rl by rw [eZ.out];simp [k0]);clear eZ;go_wp2_with (first | (go_at_call 44;((with_reducible refine (bq _ _).mono ?_);rintro e w' ⟨rfl,rfl⟩)) | (go_at_call 45;((with_reducible refine (aR _ _ _ _).mono ?_);rintro e w' ⟨rfl,rfl⟩)) | (go_at_call 104;((with_reducible refine (dB _ _ (by first | exact qJ.out | exact hns)).mono ?_);rintro e w' ⟨rfl,rfl⟩)) | fail);clear k0;go_loopw [23] (fun i wx=>∃k:Nat,k≤pre.length∧i=.int .i64 k∧Hid (xn.data.toList∉(pre.take k).map jy.nm)∧Hid (Below (w.heap.size+1) (w.alloc (.cells #[.string xn,.int .i64 xg,.int .i64 xs,.int .i64 xf,.int .i64 xd,.bool xb,.slice ro rl.length bD] 81)) wx)) (fun i _=>pre.length-(intOf i).toNat)
 case atStart=>exact ⟨0,Nat.zero_le _,rfl,ah (by simp),HB0⟩
 case round=>
  obtain ⟨k,hk,rfl,xU,bA⟩:=hrel;obtain ⟨hB,hz,p0,p1,p2,p3,p4,p5,p6⟩:=KC.out wr bA.out;by_cases hlt:k<pre.length
  ·obtain ⟨b,off,cap',hsl,hb,_,hc⟩:=HG.out (by omega);injection hsl with hs1 hs2 hs3;subst hs1 hs3;obtain ⟨rv,tX,hcc⟩:=hc k hlt;obtain ⟨d0,d1,d2,d3,d4,d5,d6⟩:=hcc wr hB;obtain ⟨yo,H8,rfl,_⟩:=aW.shape tX;have hbr:b<wr.heap.size:=by have:=hB.size;omega
   have xV:=ah (mem_at jy.nm pre k hlt xn.data.toList);have RX:=ah (qw jy.nm pre k hlt xn.data.toList xU.out);have hnm:pre[k].nm=pre[k].name.data.toList:=rfl;rw [hnm] at xV RX;clear hnm hc hcc tX hB p1 p2 p3 p4 p5 p6;generalize kC:pre[k]=rk at *;clear kC;obtain ⟨yn,yg,ys,yf,yd,yb,yl⟩:=rk;simp only at *;have dI:=ah (KA.out _ (.cells #[.string yn,.int .i64 yg,.int .i64 ys,.int .i64 yf,.int .i64 yd,.bool yb,.slice yo yl.length H8] 81) bA.out);by_cases he:yn.data.toList=xn.data.toList
   ·have hin:=xV.out he;have h2:(yn.toList==xn.toList)=true:=by rw [Lib.toList_data,Lib.toList_data];simpa using he
    have HV:=ah (show RES=6 by rw [JZ.out,if_pos hin]);go_wp2_with fail;go_ret;exact ⟨by rw [HV.out]<;>rfl,(KC.out _ dI.out).1⟩
   ·have h2:(yn.toList==xn.toList)=false:=by rw [Lib.toList_data,Lib.toList_data];simpa using he
    have HV:=ah (RX.out he);clear he xV RX;go_wp2_with fail;go_roundw
    case rel=>exact ⟨k+1,by omega,by go_num,HV,dI⟩
    case measure=>simp [intOf];omega
  ·have hkk:k=pre.length:=by omega
   have EH:=ah (show RES=if !bW xg 1 4 then 4 else if BD then 1 else if CL then 12 else gM rl by
    have h:=xU.out;rw [hkk,List.take_length] at h;rw [JZ.out,if_neg h])
   subst hkk;clear xU JZ hB hk hlt;rcases Bool.eq_false_or_eq_true (bW xg 1 4) with k1 | k1;rotate_left
   ·skip;have HV:=ah (show RES=4 by rw [EH.out];simp [k1]);go_wp2_with (first | (go_at_call 44;((with_reducible refine (bq _ _).mono ?_);rintro e w' ⟨rfl,rfl⟩)) | (go_at_call 45;((with_reducible refine (aR _ _ _ _).mono ?_);rintro e w' ⟨rfl,rfl⟩)) | (go_at_call 104;((with_reducible refine (dB _ _ (by first | exact qJ.out | exact hns)).mono ?_);rintro e w' ⟨rfl,rfl⟩)) | fail);go_ret;exact ⟨by rw [HV.out]<;>rfl,(KC.out _ bA.out).1⟩
   have Hy:=ah (show RES=if BD then 1 else if CL then 12 else gM rl by rw [EH.out];simp [k1]);go_upto_region 11 with (first | (go_at_call 44;((with_reducible refine (bq _ _).mono ?_);rintro e w' ⟨rfl,rfl⟩)) | (go_at_call 45;((with_reducible refine (aR _ _ _ _).mono ?_);rintro e w' ⟨rfl,rfl⟩)) | (go_at_call 104;((with_reducible refine (dB _ _ (by first | exact qJ.out | exact hns)).mono ?_);rintro e w' ⟨rfl,rfl⟩)) | fail);clear EH k1 p0 p1;go_cut [38] (fun s38 wx=>s38=.bool BD∧wx=wr)
   case first=>
    rcases Bool.eq_false_or_eq_true (bW xs 1 size) with j0 | j0;rotate_left
    ·skip;have HV:=ah (show BD=true by rw [qQ.out];simp [j0]);go_wp2_with (first | (go_at_call 44;((with_reducible refine (bq _ _).mono ?_);rintro e w' ⟨rfl,rfl⟩)) | (go_at_call 45;((with_reducible refine (aR _ _ _ _).mono ?_);rintro e w' ⟨rfl,rfl⟩)) | (go_at_call 104;((with_reducible refine (dB _ _ (by first | exact qJ.out | exact hns)).mono ?_);rintro e w' ⟨rfl,rfl⟩)) | fail);all_goals go_meet
     all_goals exact ⟨by rw [HV.out]<;>rfl,rfl⟩
    rcases Bool.eq_false_or_eq_true (bW xf 0 size) with j1 | j1;rotate_left
    ·skip;have HV:=ah (show BD=true by rw [qQ.out];simp [j0,j1]);go_wp2_with (first | (go_at_call 44;((with_reducible refine (bq _ _).mono ?_);rintro e w' ⟨rfl,rfl⟩)) | (go_at_call 45;((with_reducible refine (aR _ _ _ _).mono ?_);rintro e w' ⟨rfl,rfl⟩)) | (go_at_call 104;((with_reducible refine (dB _ _ (by first | exact qJ.out | exact hns)).mono ?_);rintro e w' ⟨rfl,rfl⟩)) | fail);all_goals go_meet
     all_goals exact ⟨by rw [HV.out]<;>rfl,rfl⟩
    rcases Bool.eq_false_or_eq_true (bW xd 0 65535) with j2 | j2;rotate_left
    ·skip;have HV:=ah (show BD=true by rw [qQ.out];simp [j0,j1,j2]);go_wp2_with (first | (go_at_call 44;((with_reducible refine (bq _ _).mono ?_);rintro e w' ⟨rfl,rfl⟩)) | (go_at_call 45;((with_reducible refine (aR _ _ _ _).mono ?_);rintro e w' ⟨rfl,rfl⟩)) | (go_at_call 104;((with_reducible refine (dB _ _ (by first | exact qJ.out | exact hns)).mono ?_);rintro e w' ⟨rfl,rfl⟩)) | fail);all_goals go_meet
     all_goals exact ⟨by rw [HV.out]<;>rfl,rfl⟩
    ·skip;have HV:=ah (show BD=false by rw [qQ.out];simp [j0,j1,j2]);go_wp2_with (first | (go_at_call 44;((with_reducible refine (bq _ _).mono ?_);rintro e w' ⟨rfl,rfl⟩)) | (go_at_call 45;((with_reducible refine (aR _ _ _ _).mono ?_);rintro e w' ⟨rfl,rfl⟩)) | (go_at_call 104;((with_reducible refine (dB _ _ (by first | exact qJ.out | exact hns)).mono ?_);rintro e w' ⟨rfl,rfl⟩)) | fail);all_goals go_meet
     all_goals exact ⟨by rw [HV.out]<;>rfl,rfl⟩
   case rest=>
    obtain ⟨rfl,rfl⟩:=hcut;cases BD;rotate_left
    ·skip;have HV:=ah (show RES=1 by rw [Hy.out];rfl);go_wp2_with fail;go_ret;exact ⟨by rw [HV.out]<;>rfl,(KC.out _ bA.out).1⟩
    have hf0:=HBF.out rfl;have HF4:=ah (show RES=if CL then 12 else gM rl by rw [Hy.out];rfl);have Di:=ah (fun W=>AJ.out W hf0);clear Hy qQ HBF AJ;by_cases j0:xs=xf
    ·have j1:(xs==xf)=true:=by simpa using j0
     have HV:=ah (show RES=12 by rw [HF4.out,K5.out];simp [j0]);go_wp2_with fail;go_ret;exact ⟨by rw [HV.out]<;>rfl,(KC.out _ bA.out).1⟩
    have j1:(xs==xf)=false:=by simpa using j0
    have qO:=ah (show CL=(decide (xs∈iy pre)||(decide (0<xf)&&decide (xf∈iy pre))) by rw [K5.out];simp [j0])
    have HCY:=ah (show CL=true↔∃s∈SL,s∈iy pre by
     rw [qO.out,HSL.out];by_cases c:0<xf
     ·simp [c]
     ·simp [c])
    have HSLN:=ah (show SL.length≤2 by rw [HSL.out];split<;>simp);clear K5 qO HSL;go_wp2_with fail;clear j0 j1 p2 p3 p4 p5 p6 hz;go_loopw [65] (fun i wx=>∃k:Nat,k≤pre.length∧i=.int .i64 k∧Hid (∀s∈SL,s∉iy (pre.take k))∧Hid (Below (w.heap.size+1) (w.alloc (.cells #[.string xn,.int .i64 xg,.int .i64 xs,.int .i64 xf,.int .i64 xd,.bool xb,.slice ro rl.length bD] 81)) wx)) (fun i _=>pre.length-(intOf i).toNat)
    case atStart=>exact ⟨0,Nat.zero_le _,rfl,ah (by simp [iy]),bA⟩
    case round=>
     clear bA;obtain ⟨k,hk,rfl,xU,bA⟩:=hrel;obtain ⟨wo,rfl⟩:∃wo:World,wo=wr:=⟨_,rfl⟩;obtain ⟨hB,hz,p0,p1,p2,p3,p4,p5,p6⟩:=KC.out wo bA.out;by_cases hlt:k<pre.length
     ·obtain ⟨b,off,cap',hsl,hb,_,hc⟩:=HG.out (by omega);injection hsl with hs1 hs2 hs3;subst hs1 hs3;obtain ⟨rv,tX,hcc⟩:=hc k hlt;obtain ⟨d0,d1,d2,d3,d4,d5,d6⟩:=hcc wo hB;obtain ⟨yo,H8,rfl,_⟩:=aW.shape tX;have hbr:b<wo.heap.size:=by have:=hB.size;omega
      have HUA:=ah (used_at pre k hlt);have HNU:=ah (A9 SL pre k hlt xU.out);have HYS:=ah (fun W=>zD pre[k] yo pre[k].pY.length H8 W (HPF.out _ (List.getElem_mem hlt)).1);have HYL:=ah (Il pre[k]);clear hc hcc tX hB;generalize iE pre[k]=YS at *;generalize kC:pre[k]=rk at *;clear kC;obtain ⟨yn,yg,ys,yf,yd,yb,yl⟩:=rk;simp only at *;have dI:=ah (KA.out _ (.cells #[.string yn,.int .i64 yg,.int .i64 ys,.int .i64 yf,.int .i64 yd,.bool yb,.slice yo yl.length H8] 81) bA.out);clear xU;go_wp2_with fail;refine (Di.out _).mono ?_;rintro e w3 ⟨g,rfl,hg,hgl,hcs,hb3⟩;simp only [World.size_alloc] at hgl hb3;have hz3:=hb3.size;simp only [World.size_alloc] at hz3;have HB3:=ah (KM.out _ w3 dI.out (hb3.mono (by simp)))
      have KY:=ah (show ∀W,Below w3.heap.size w3 W→W.cell? ⟨wo.heap.size,0,none⟩=some (.string yn)∧W.cell? ⟨wo.heap.size,1,none⟩=some (.int .i64 yg)∧W.cell? ⟨wo.heap.size,2,none⟩=some (.int .i64 ys)∧W.cell? ⟨wo.heap.size,3,none⟩=some (.int .i64 yf)∧W.cell? ⟨wo.heap.size,4,none⟩=some (.int .i64 yd)∧W.cell? ⟨wo.heap.size,5,none⟩=some (.bool yb)∧W.cell? ⟨wo.heap.size,6,none⟩=some (.slice yo yl.length H8) from fun W hW=>by
       have h:=(hb3.trans (hW.mono (by omega)));exact ⟨(h.cell (p:=⟨wo.heap.size,0,none⟩) (by simp)).trans (by simp [go_sem]),(h.cell (p:=⟨wo.heap.size,1,none⟩) (by simp)).trans (by simp [go_sem]),(h.cell (p:=⟨wo.heap.size,2,none⟩) (by simp)).trans (by simp [go_sem]),(h.cell (p:=⟨wo.heap.size,3,none⟩) (by simp)).trans (by simp [go_sem]),(h.cell (p:=⟨wo.heap.size,4,none⟩) (by simp)).trans (by simp [go_sem]),(h.cell (p:=⟨wo.heap.size,5,none⟩) (by simp)).trans (by simp [go_sem]),(h.cell (p:=⟨wo.heap.size,6,none⟩) (by simp)).trans (by simp [go_sem])⟩)
      have KG:=ah (show ∀W,Below w3.heap.size w3 W→∀i (h:i<SL.length),W.cell? ⟨g,i,none⟩=some (.int .i64 SL[i]) from fun W hW i h=>(hW.cell (p:=⟨g,i,none⟩) hg).trans (hcs i h));clear hb3 hcs d0 d1 d2 d3 d4 d5 d6 p0 p1 p2 p3 p4 p5 p6;have hsl2:=HSLN.out;go_wp2_with fail;go_loopw [72] (fun i wx=>∃i':Nat,i'≤SL.length∧i=.int .i64 i'∧Hid (∀j (h:j<SL.length),j<i'→SL[j]∉YS)∧Hid (Below w3.heap.size w3 wx)) (fun i _=>SL.length-(intOf i).toNat)
      case atStart=>exact ⟨0,Nat.zero_le _,rfl,ah (fun j _ h=>absurd h (Nat.not_lt_zero _)),ah (Below.refl _ _)⟩
      case round=>
       obtain ⟨i,hi,rfl,HNJ,vW⟩:=hrel;have hzi:=vW.out.size;by_cases hilt:i<SL.length
       ·obtain ⟨y0,y1,y2,y3,y4,y5,y6⟩:=KY.out wr vW.out;have e0:=KG.out wr vW.out i hilt;have hgr:g<wr.heap.size:=by omega
        have hor:wo.heap.size<wr.heap.size:=by omega
        have HIS:=ah (List.getElem_mem hilt)
        have HNN:=ah (show SL[i]∉YS→∀j (h:j<SL.length),j<i+1→SL[j]∉YS from fun h j hj hji=>by
         by_cases c:j=i
         ·subst c;exact h
         ·exact HNJ.out j hj (by omega))
        generalize SL[i]=si at *;go_wp2_with fail;refine (HYS.out _).mono ?_;rintro e w5 ⟨g5,rfl,hg5,hgl5,hcs5,hb5⟩;have HC5:=ah (Ea g5 YS si w5 (by have:=HYL.out;omega) hcs5);have nU:=ah (vW.out.trans (hb5.mono vW.out.size));clear hcs5 hb5 y0 y1 y2 y3 y4 y5 y6 e0 HNJ;by_cases hin:si∈YS
        ·have hd:decide (si∈YS)=true:=by simpa using hin
         rw [hd] at HC5;have HV:=ah (show RES=12 by rw [HF4.out,HCY.out.2 ⟨si,HIS.out,HUA.out si hin⟩];rfl);clear hd hin;go_wp2_with fail;refine HC5.out.mono ?_;rintro e w' ⟨rfl,rfl⟩;go_wp2_with fail;go_ret;exact ⟨by rw [HV.out]<;>rfl,(KC.out _ (KM.out _ _ HB3.out nU.out)).1⟩
        ·have hd:decide (si∈YS)=false:=by simpa using hin
         rw [hd] at HC5;have HV:=ah (HNN.out hin);clear hd hin HNN;go_wp2_with fail;refine HC5.out.mono ?_;rintro e w' ⟨rfl,rfl⟩;go_wp2_with fail;go_roundw
         case rel=>exact ⟨i+1,by omega,by go_num,HV,nU⟩
         case measure=>simp [intOf];omega
       ·have hii:i=SL.length:=by omega
        have HV:=ah (HNU.out (fun s hs=>by
         obtain ⟨j,hj,rfl⟩:=List.getElem_of_mem hs;exact HNJ.out j hj (by omega)))
        have EI:=ah (KM.out _ _ HB3.out vW.out);subst hii;clear HNJ HNU KY KG;go_wp2_with fail;go_roundw
        case rel=>exact ⟨k+1,by omega,by go_num,HV,EI⟩
        case measure=>simp [intOf];omega
     ·have hkk:k=pre.length:=by omega
      have JY:=ah (show RES=gM rl by
       have h:=xU.out;rw [hkk,List.take_length] at h
       have h2:CL=false:=by
        cases hc:CL
        ·rfl
        ·obtain ⟨s,hs1,hs2⟩:=HCY.out.1 hc;exact absurd hs2 (h s hs1)
       rw [HF4.out,h2];rfl)
      have HBO:=ah hB;subst hkk;clear xU HF4 hB hk hlt HCY Di HG HPF HSLN;by_cases Jm:30<rl.length
      ·have HV:=ah (show RES=2 by rw [JY.out];unfold gM;rw [if_pos Jm]);go_wp2_with fail;go_ret;exact ⟨by rw [HV.out]<;>rfl,HBO.out⟩
      have HC:=ah (show RES=bQ qZ rl 0 by rw [JY.out];unfold gM;rw [if_neg Jm]);have h31:rl.length≤30:=by omega
      clear JY Jm;go_wp2_with fail;clear HBO p0 p1 p2 p3 p4 p5 p6 hz;go_loopw [89] (fun i wx=>∃k:Nat,k≤rl.length∧i=.int .i64 k∧Hid (RES=bQ qZ rl k)∧Hid (Below (w.heap.size+1) (w.alloc (.cells #[.string xn,.int .i64 xg,.int .i64 xs,.int .i64 xf,.int .i64 xd,.bool xb,.slice ro rl.length bD] 81)) wx)) (fun i _=>rl.length-(intOf i).toNat)
      case atStart=>exact ⟨0,Nat.zero_le _,rfl,HC,bA⟩
      case round=>
       clear bA HC;obtain ⟨k,hk,rfl,gW,bA⟩:=hrel;obtain ⟨wo,rfl⟩:∃wo:World,wo=wr:=⟨_,rfl⟩;obtain ⟨hB,hz,p0,p1,p2,p3,p4,p5,p6⟩:=KC.out wo bA.out;by_cases hlt:k<rl.length
       ·obtain ⟨b,off,cap',hsl,hb,_,hc⟩:=HRG.out (by omega);injection hsl with hs1 hs2 hs3;subst hs1 hs3;obtain ⟨d0,d1,d2⟩:=hc k hlt wo hB;have HRW:=ah hc;have vS:=ah (fun (h0:0<k)=>hc (k-1) (by omega) wo hB);have hbr:b<wo.heap.size:=by have:=hB.size;omega
        have hbw:=hb;obtain ⟨g0,g1,hns⟩:=HFR.out _ (List.getElem_mem hlt);have sN:=ah (fD qZ rl k hlt);have iB:=ah (gD qZ rl k hlt);have eZ:=ah (show qZ (rl.take k) rl[k]=if uG rl[k] then 1 else if ni (rl.take k) rl[k] then 7 else if !eU rl[k].nm then 5 else if rl[k].nm∈(rl.take k).map uj.nm then 6 else 0 from rfl);have qK:=ah (show k=0→ni (rl.take k) rl[k]=false from fun h0=>by subst h0;rfl);have yX:=ah (show ∀h0:0<k,ni (rl.take k) rl[k]=decide (rl[k].low≤(rl[k-1]'(by omega)).aD) from fun h0=>by unfold ni;rw [oU rl k hlt h0];rfl);have qQ:=ah (show uG rl[k]=(!bW rl[k].low 0 65535||!bW rl[k].aD 0 65535||decide (rl[k].aD<rl[k].low)) from rfl);generalize ni (rl.take k) rl[k]=LW at *;generalize uG rl[k]=BD at *;generalize qZ (rl.take k) rl[k]=FF at *;have hnm:rl[k].nm=rl[k].name.data.toList:=rfl;rw [hnm] at eZ;clear hnm hc g0 g1 hB HRG;generalize kC:rl[k]=rk at *;clear kC;obtain ⟨EB,Kl,vX⟩:=rk;simp only at d0 d1 d2 hns eZ qQ yX;have Ou:=ah (KA.out _ (.cells #[.int .i64 EB,.int .i64 Kl,.string vX] 161) bA.out);go_upto_region 30 with fail;go_cut [94] (fun s94 wx=>s94=.bool BD∧wx=wo.alloc (.cells #[.int .i64 EB,.int .i64 Kl,.string vX] 161))
        case first=>
         rcases Bool.eq_false_or_eq_true (bW EB 0 65535) with k0 | k0;rotate_left
         ·skip;have HV:=ah (show BD=true by rw [qQ.out];simp [k0]);go_wp2_with (first | (go_at_call 44;((with_reducible refine (bq _ _).mono ?_);rintro e w' ⟨rfl,rfl⟩)) | (go_at_call 45;((with_reducible refine (aR _ _ _ _).mono ?_);rintro e w' ⟨rfl,rfl⟩)) | (go_at_call 104;((with_reducible refine (dB _ _ (by first | exact qJ.out | exact hns)).mono ?_);rintro e w' ⟨rfl,rfl⟩)) | fail);all_goals go_meet
          all_goals exact ⟨by rw [HV.out]<;>rfl,rfl⟩
         rcases Bool.eq_false_or_eq_true (bW Kl 0 65535) with k1 | k1;rotate_left
         ·skip;have HV:=ah (show BD=true by rw [qQ.out];simp [k0,k1]);go_wp2_with (first | (go_at_call 44;((with_reducible refine (bq _ _).mono ?_);rintro e w' ⟨rfl,rfl⟩)) | (go_at_call 45;((with_reducible refine (aR _ _ _ _).mono ?_);rintro e w' ⟨rfl,rfl⟩)) | (go_at_call 104;((with_reducible refine (dB _ _ (by first | exact qJ.out | exact hns)).mono ?_);rintro e w' ⟨rfl,rfl⟩)) | fail);all_goals go_meet
          all_goals exact ⟨by rw [HV.out]<;>rfl,rfl⟩
         by_cases k2:Kl<EB
         ·skip;have HV:=ah (show BD=true by rw [qQ.out];simp [k0,k1,k2]);go_wp2_with (first | (go_at_call 44;((with_reducible refine (bq _ _).mono ?_);rintro e w' ⟨rfl,rfl⟩)) | (go_at_call 45;((with_reducible refine (aR _ _ _ _).mono ?_);rintro e w' ⟨rfl,rfl⟩)) | (go_at_call 104;((with_reducible refine (dB _ _ (by first | exact qJ.out | exact hns)).mono ?_);rintro e w' ⟨rfl,rfl⟩)) | fail);all_goals go_meet
          all_goals exact ⟨by rw [HV.out]<;>rfl,rfl⟩
         ·skip;have HV:=ah (show BD=false by rw [qQ.out];simp [k0,k1];omega);have k3:decide (Kl<EB)=false:=by simpa using k2
          go_wp2_with (first | (go_at_call 44;((with_reducible refine (bq _ _).mono ?_);rintro e w' ⟨rfl,rfl⟩)) | (go_at_call 45;((with_reducible refine (aR _ _ _ _).mono ?_);rintro e w' ⟨rfl,rfl⟩)) | (go_at_call 104;((with_reducible refine (dB _ _ (by first | exact qJ.out | exact hns)).mono ?_);rintro e w' ⟨rfl,rfl⟩)) | fail);all_goals go_meet
          all_goals exact ⟨by rw [HV.out]<;>rfl,rfl⟩
        case rest=>
         obtain ⟨rfl,rfl⟩:=hcut;cases BD;rotate_left
         ·have HE:FF=1:=by rw [eZ.out];rfl
          have HV:=ah (show RES=1 by rw [gW.out,iB.out (by rw [HE];decide),HE]);clear HE;go_wp2_with fail;go_ret;exact ⟨by rw [HV.out]<;>rfl,(KC.out _ Ou.out).1⟩
         have JX:=ah (show FF=if LW then 7 else if !eU vX.data.toList then 5 else if vX.data.toList∈(rl.take k).map uj.nm then 6 else 0 by rw [eZ.out];rfl);clear eZ qQ;go_upto_region 32 with fail;go_cut [112] (fun s112 wx=>s112=.bool LW∧Below wx.heap.size (wo.alloc (.cells #[.int .i64 EB,.int .i64 Kl,.string vX] 161)) wx∧wx.heap.size=wo.heap.size+1)
         case first=>
          by_cases h0:k=0
          ·subst h0;have HV:=ah (qK.out rfl);clear vS yX qK;go_quiet (fail)
           go_wp2_with fail;all_goals go_meet
           all_goals exact ⟨by rw [HV.out]<;>rfl,fC (Below.refl _ _) _,by simp⟩
          ·obtain ⟨j,rfl⟩:∃j,k=j+1:=⟨k-1,by omega⟩;have rD:=ah (yX.out (by omega));obtain ⟨_,d4,_⟩:=vS.out (by omega);clear vS yX qK;simp only [Nat.add_sub_cancel] at d4;have hlow:(rl[j+1-1]'(by omega))=rl[j]:=by simp
           rw [hlow] at rD;clear hlow;generalize rl[j]=rj at *;obtain ⟨jl,jh,jn⟩:=rj;simp only at d4;have hji:((j+1:Nat):Int)-1=(j:Int):=by omega
           by_cases hle:EB≤jh
           ·skip;have HV:=ah (show LW=true by rw [rD.out];simpa using hle);clear rD;go_quiet (fail)
            go_wp2_with fail;all_goals go_meet
            all_goals exact ⟨by rw [HV.out]<;>rfl,fC (Below.refl _ _) _,by simp⟩
           ·skip;have HV:=ah (show LW=false by rw [rD.out];simpa using hle);clear rD;have Qw:decide (EB≤jh)=false:=by simpa using hle
            go_quiet (fail)
            go_wp2_with fail;all_goals go_meet
            all_goals exact ⟨by rw [HV.out]<;>rfl,fC (Below.refl _ _) _,by simp⟩
         case rest=>
          obtain ⟨rfl,hb3,hz3⟩:=hcut;have kr:=ah (KM.out _ wc Ou.out (hb3.mono (by simp;omega)));have e2:wc.cell? ⟨wo.heap.size,2,none⟩=some (.string vX):=(hb3.cell (p:=⟨wo.heap.size,2,none⟩) (by simp;omega)).trans (by simp [go_sem]);clear hb3 d0 d1 d2 yX qK vS Ou bA p0 p1 p2 p3 p4 p5 p6;obtain ⟨hBc,_,p0,p1,p2,p3,p4,p5,p6⟩:=KC.out wc kr.out;clear hBc p0 p1 p2 p3 p4 p5;cases LW;rotate_left
          ·skip;have HE:FF=7:=by rw [JX.out];rfl
           have HV:=ah (show RES=7 by rw [gW.out,iB.out (by rw [HE];decide),HE]);clear HE;go_wp2_with fail;go_ret;exact ⟨by rw [HV.out]<;>rfl,(KC.out _ kr.out).1⟩
          rcases Bool.eq_false_or_eq_true (eU vX.data.toList) with k0 | k0;rotate_left
          ·skip;have HE:FF=5:=by rw [JX.out];simp [k0]
           have HV:=ah (show RES=5 by rw [gW.out,iB.out (by rw [HE];decide),HE]);clear HE;go_wp2_with (first | (go_at_call 44;((with_reducible refine (bq _ _).mono ?_);rintro e w' ⟨rfl,rfl⟩)) | (go_at_call 45;((with_reducible refine (aR _ _ _ _).mono ?_);rintro e w' ⟨rfl,rfl⟩)) | (go_at_call 104;((with_reducible refine (dB _ _ (by first | exact qJ.out | exact hns)).mono ?_);rintro e w' ⟨rfl,rfl⟩)) | fail);go_ret;exact ⟨by rw [HV.out]<;>rfl,(KC.out _ kr.out).1⟩
          have HFG:=ah (show FF=if vX.data.toList∈(rl.take k).map uj.nm then 6 else 0 by rw [JX.out];simp [k0]);clear JX;go_wp2_with (first | (go_at_call 44;((with_reducible refine (bq _ _).mono ?_);rintro e w' ⟨rfl,rfl⟩)) | (go_at_call 45;((with_reducible refine (aR _ _ _ _).mono ?_);rintro e w' ⟨rfl,rfl⟩)) | (go_at_call 104;((with_reducible refine (dB _ _ (by first | exact qJ.out | exact hns)).mono ?_);rintro e w' ⟨rfl,rfl⟩)) | fail);clear k0;generalize hnl:vX.data.toList=nl at *;go_loopw [137] (fun i wx=>∃j:Nat,j≤k∧i=.int .i64 j∧Hid (nl∉(rl.take j).map uj.nm)∧Hid (Below wc.heap.size wc wx)) (fun i _=>k-(intOf i).toNat)
          case atStart=>exact ⟨0,Nat.zero_le _,rfl,ah (by simp),ah (Below.refl _ _)⟩
          case round=>
           obtain ⟨j,hj,rfl,xU,vW⟩:=hrel;have hzi:=vW.out.size;have e3:wr.cell? ⟨wo.heap.size,2,none⟩=some (.string vX):=(vW.out.cell (p:=⟨wo.heap.size,2,none⟩) (by simp;omega)).trans e2;have hbi:b<wr.heap.size:=by omega
           have hor:wo.heap.size<wr.heap.size:=by omega
           by_cases hjlt:j<k
           ·obtain ⟨d0,d1,d2⟩:=HRW.out j (by omega) wr (KC.out _ (KM.out _ _ kr.out vW.out)).1;have xV:=ah (yj uj.nm rl k j (by omega) hjlt nl);have RX:=ah (qw uj.nm rl j (by omega) nl xU.out);have hnm:rl[j].nm=rl[j].name.data.toList:=rfl;rw [hnm] at xV RX;clear hnm xU;generalize kC:rl[j]'(by omega)=rk at *;clear kC;obtain ⟨jl,jh,jn⟩:=rk;simp only at *;have dI:=ah (vW.out.alloc hzi (.cells #[.int .i64 jl,.int .i64 jh,.string jn] 161));by_cases he:jn.data.toList=nl
            ·have hin:=xV.out he;have h2:(jn.toList==vX.toList)=true:=by rw [Lib.toList_data,Lib.toList_data,hnl];simpa using he
             have HE:FF=6:=by rw [HFG.out,if_pos hin]
             have HV:=ah (show RES=6 by rw [gW.out,iB.out (by rw [HE];decide),HE]);clear HE;go_wp2_with fail;go_ret;exact ⟨by rw [HV.out]<;>rfl,(KC.out _ (KM.out _ _ kr.out dI.out)).1⟩
            ·have h2:(jn.toList==vX.toList)=false:=by rw [Lib.toList_data,Lib.toList_data,hnl];simpa using he
             have HV:=ah (RX.out he);clear he xV RX;go_wp2_with fail;go_roundw
             case rel=>exact ⟨j+1,by omega,by go_num,HV,dI⟩
             case measure=>simp [intOf];omega
           ·have hjk:j=k:=by omega
            subst hjk;have HE:FF=0:=by rw [HFG.out,if_neg xU.out]
            have HV:=ah (show RES=bQ qZ rl (j+1) by rw [gW.out,sN.out HE]);have EI:=ah (KM.out _ _ kr.out vW.out);clear HE xU;go_wp2_with fail;go_roundw
            case rel=>exact ⟨j+1,by omega,by go_num,HV,EI⟩
            case measure=>simp [intOf];omega
       ·have HV:=ah (show RES=0 by rw [gW.out,gB qZ rl k (by omega)]);have HBO:=ah hB;have hkk:k=rl.length:=by omega
        clear hB;subst hkk;go_wp2_with fail;go_ret;exact ⟨by rw [HV.out]<;>rfl,HBO.out⟩
end Go.Proofs.YtopmdeefcjdadaaGreat
