import Derived.Test.YtopmdeefcjdadaaGreatT41M00
import Derived.Test.YtopmdeefcjdadaaGreatT41M10
import Derived.Test.YtopmdeefcjdadaaGreatT41M13
set_option linter.unusedVariables false
set_option linter.unusedSimpArgs false
set_option maxRecDepth 100000
set_option maxHeartbeats 32000000
namespace Go.Proofs.YtopmdeefcjdadaaGreat
open Go.RowKit
theorem JJ {lib:List Prf} (hl:eu lib=0) {pre:List gM} {u:gM} (h:jm lib pre u=0):(1≤u.addr∧u.addr≤512)∧(1≤sizeOf' lib u∧sizeOf' lib u≤512):=by
 obtain ⟨_,_,⟨p,h1,h2⟩,_⟩:=mq h;exact ⟨(jX h2).2.1,by rw [rQ h1];exact size_pos hl h1⟩
theorem Fh {α:Type} (f:α→Bool) (l:List α) (k:Nat) (h:k<l.length):(l.take (k+1)).any f=((l.take k).any f||f l[k]):=by
 rw [List.take_succ_eq_append_getElem h,List.any_append];simp
theorem PU {α:Type} (f:α→Bool) (l:List α) (k j:Nat) (h:j<l.length) (hj:j<k) (h1:f l[j]=true):(l.take k).any f=true:=by
 rw [List.any_eq_true];refine ⟨l[j],?_,h1⟩;have h3:j<(l.take k).length:=by rw [List.length_take];omega
 have h4:(l.take k)[j]=l[j]:=List.getElem_take;rw [←h4];exact List.getElem_mem h3
theorem GN {B:Nat} {w:World} {o:Option Prf} {v:Value} (h:Ah B w o v):∃qn qz qo ql qc,v=.agg #[.string qn,.int .i64 qz,.slice qo ql qc]:=by
 cases o with
 | none=>exact ⟨_,_,_,_,_,h⟩
 | some p=>
  obtain ⟨pv,rfl,hp⟩:=h;obtain ⟨ao,cap,rfl⟩:=gJ hp;exact ⟨_,_,_,_,_,rfl⟩
theorem Gz (x:jw) (lv uv:Value) (w:World) (h:kH w.heap.size w x lv uv) (hf:rA x) :
  Calls Tryz.prog 24 #[kS lv uv] w fun e w'=>e=.returned (.int .i64 (bW x))∧Below w.heap.size w w':=by
 have CL:=ah (fun W (hb:Below w.heap.size w W)=>yH lv x.lib W ((h.lib.below hb).more hb.size) hf.1);have CP:=ah (fun (nm:ByteArray) W (hb:Below w.heap.size w W)=>um lv x.lib nm W ((h.lib.below hb).more hb.size));have HPL:=ah (fun W (hb:Below w.heap.size w W)=>(h.lib.below hb).more hb.size);have HG:=ah (pF.get h.aD);have HF:=ah hf.2;obtain ⟨uo,dG,rfl,_⟩:=aW.shape h.aD;obtain ⟨lo,dJ,rfl⟩:=iq h.lib;have hcp:=xV h.aD;clear h hf;obtain ⟨lib,aD⟩:=x;simp only [kS] at *;have ug:=ah (show bW ⟨lib,aD⟩=if eu lib≠0 then eu lib else if 400<aD.length then 2 else bP (jm lib) aD 0 from rfl);generalize bW ⟨lib,aD⟩=RES at *
 have KC:=ah (show ∀W,Below (w.heap.size+1) (w.alloc (.cells #[.slice lo lib.length dJ,.slice uo aD.length dG] 25)) W→(Below w.heap.size w W∧w.heap.size<W.heap.size∧W.cell? ⟨w.heap.size,0,none⟩=some (.slice lo lib.length dJ)∧W.cell? ⟨w.heap.size,1,none⟩=some (.slice uo aD.length dG)) from fun W hW=>by
  have hz:=hW.size;simp at hz;exact ⟨((Below.refl _ _).alloc (Nat.le_refl _) _).trans (hW.mono (by omega)),by omega,(hW.cell (p:=⟨w.heap.size,0,none⟩) (by simp)).trans (by simp [go_sem]),(hW.cell (p:=⟨w.heap.size,1,none⟩) (by simp)).trans (by simp [go_sem])⟩)
 have KA:=ah (show ∀W o,Below (w.heap.size+1) (w.alloc (.cells #[.slice lo lib.length dJ,.slice uo aD.length dG] 25)) W→Below (w.heap.size+1) (w.alloc (.cells #[.slice lo lib.length dJ,.slice uo aD.length dG] 25)) (W.alloc o) from fun W o h=>h.alloc (by have:=h.size;simp at this;omega) o);have KM:=ah (show ∀W W1,Below (w.heap.size+1) (w.alloc (.cells #[.slice lo lib.length dJ,.slice uo aD.length dG] 25)) W→Below W.heap.size W W1→Below (w.heap.size+1) (w.alloc (.cells #[.slice lo lib.length dJ,.slice uo aD.length dG] 25)) W1 from fun W W1 h1 h2=>h1.trans (h2.mono (by have:=h1.size;simp at this;omega)));have HK0:=ah (Below.refl (w.heap.size+1) (w.alloc (.cells #[.slice lo lib.length dJ,.slice uo aD.length dG] 25)));have CL1:=ah (CL.out _ (KC.out _ HK0.out).1);clear CL;go_enter Tryz.func24,Tryz.ntmps24;go_wp2_with fail;refine CL1.out.mono ?_;rintro e w2 ⟨rfl,hb2⟩;have HB2:=ah (KM.out _ _ HK0.out hb2);clear hb2 CL1;obtain ⟨hB2,hz2,p0,p1⟩:=KC.out _ HB2.out;by_cases hE:eu lib=0;rotate_left
 ·have HV:=ah (show RES=eu lib by rw [ug.out,if_pos hE]);have rJ:=ah hB2;clear hB2;generalize eu lib=E at *;go_wp2_with fail;go_ret;exact ⟨by rw [HV.out]<;>rfl,rJ.out⟩
 have hC1:RES=if 400<aD.length then 2 else bP (jm lib) aD 0:=by rw [ug.out,if_neg (by simpa using hE)]
 have Dr:=ah hC1;have HUS:=ah (fun (pre:List gM) (u:gM) (h:jm lib pre u=0)=>JJ hE h);have xQ:=ah (fun (u:gM) (p:Prf) (h:cB lib u.nm=some p)=>size_pos hE h);clear ug hC1;rw [hE];clear hE;by_cases h4:400<aD.length
 ·have HV:=ah (show RES=2 by rw [Dr.out,if_pos h4]);have rJ:=ah hB2;clear hB2;go_wp2_with fail;go_ret;exact ⟨by rw [HV.out]<;>rfl,rJ.out⟩
 have HC:=ah (show RES=bP (jm lib) aD 0 by rw [Dr.out,if_neg h4]);have h31:aD.length≤400:=by omega
 clear Dr h4 hB2;go_wp2_with fail;clear p0 p1 hz2;go_loopw [23] (fun i wx=>∃k:Nat,k≤aD.length∧i=.int .i64 k∧Hid (RES=bP (jm lib) aD k)∧Hid (∀j (hj:j<aD.length),j<k→jm lib (aD.take j) aD[j]=0)∧Hid (Below (w.heap.size+1) (w.alloc (.cells #[.slice lo lib.length dJ,.slice uo aD.length dG] 25)) wx)) (fun i _=>aD.length-(intOf i).toNat)
 case atStart=>exact ⟨0,Nat.zero_le _,rfl,HC,ah (fun j _ h=>absurd h (Nat.not_lt_zero _)),HB2⟩
 case round=>
  clear HC HB2;obtain ⟨k,hk,rfl,iO,F9,bG⟩:=hrel;obtain ⟨wo,rfl⟩:∃wo:World,wo=wr:=⟨_,rfl⟩;obtain ⟨hB,hz,p0,p1⟩:=KC.out wo bG.out;by_cases hlt:k<aD.length
  ·obtain ⟨b,off,cap',hsl,hb,_,hc⟩:=HG.out (by omega);injection hsl with hs1 hs2 hs3;subst hs1 hs3;obtain ⟨d0,d1,d2,d3⟩:=hc k hlt wo hB;have HRW:=ah hc;have hbr:b<wo.heap.size:=by have:=hB.size;omega
   have rG:=ah (eZ (jm lib) aD k hlt);have iG:=ah (fP (jm lib) aD k hlt);have eF:=ah (show jm lib (aD.take k) aD[k]=if !bU aD[k].num 1 9999 then 1 else if jW (aD.take k) aD[k] then 7 else if (cB lib aD[k].nm).isNone then 5 else if iP aD[k] (sizeOf' lib aD[k]) then 1 else if (aD.take k).any (jK lib aD[k]) then 12 else 0 from rfl);have pK:=ah (show k=0→jW (aD.take k) aD[k]=false from fun h0=>by subst h0;rfl);have xS:=ah (show ∀h0:0<k,jW (aD.take k) aD[k]=decide (aD[k].num≤(aD[k-1]'(by omega)).num) from fun h0=>by unfold jW;rw [om aD k hlt h0];rfl)
   have Dl:=ah (show jm lib (aD.take k) aD[k]=0→∀j (hj:j<aD.length),j<k+1→jm lib (aD.take j) aD[j]=0 from fun h j hj hjk=>by
    by_cases c:j=k
    ·subst c;exact h
    ·exact F9.out j hj (by omega))
   have wM:=ah (show (cB lib aD[k].nm).isSome=true→1≤sizeOf' lib aD[k]∧sizeOf' lib aD[k]≤512 from fun h=>by
    obtain ⟨p,hp⟩:=Option.isSome_iff_exists.1 h;rw [rQ hp];exact xQ.out _ _ hp)
   have pO:=ah (show iP aD[k] (sizeOf' lib aD[k])=(!bU aD[k].univ 1 64||!bU aD[k].addr 1 512||decide (512<lastOf lib aD[k])) from rfl);have HCJ:=ah (fun (y:gM)=>show jK lib aD[k] y=(decide (y.univ=aD[k].univ)&&decide (y.addr≤lastOf lib aD[k])&&decide (aD[k].addr≤lastOf lib y)) from rfl);have HLU:=ah (fun W (hb:Below w.heap.size w W) (h1:1≤aD[k].addr∧aD[k].addr≤512) (h2:1≤sizeOf' lib aD[k]∧sizeOf' lib aD[k]≤512)=>AJ lo (some ⟨b,off,none⟩) dJ aD.length dG lib aD[k] W (HPL.out W hb) (by omega) (by omega) (by omega) (by omega));have hnm:aD[k].nm=aD[k].yL.data.toList:=rfl;rw [hnm] at eF wM;generalize jW (aD.take k) aD[k]=LW at *;generalize jm lib (aD.take k) aD[k]=FF at *;generalize iP aD[k] (sizeOf' lib aD[k])=BD at *;generalize lastOf lib aD[k]=LU at *;generalize sizeOf' lib aD[k]=SZ at *;generalize hCU:jK lib aD[k]=CU at *;clear hCU hnm hc hB;generalize kM:aD[k]=rk at *;clear kM;obtain ⟨un,up,uu,ua⟩:=rk;simp only at *;have dN:=ah (KA.out _ (.cells #[.int .i64 un,.string up,.int .i64 uu,.int .i64 ua] 67) bG.out);have CP1:=ah (CP.out up _ (KC.out _ dN.out).1);generalize cB lib up.data.toList=PO at *;go_wp2_with fail;refine CP1.out.mono ?_;rintro e w5 ⟨pv,rfl,hpv,hb5⟩;obtain ⟨qn,qz,qo,ql,qc,rfl⟩:=GN hpv;have hz5:=hb5.size;simp only [World.size_alloc] at hz5;have hbu5:wo.heap.size<w5.heap.size:=by omega
   have tZ:=ah (KM.out _ _ dN.out hb5)
   have KU5:=ah (show ∀W,Below w5.heap.size w5 W→(W.cell? ⟨wo.heap.size,0,none⟩=some (.int .i64 un)∧W.cell? ⟨wo.heap.size,1,none⟩=some (.string up)∧W.cell? ⟨wo.heap.size,2,none⟩=some (.int .i64 uu)∧W.cell? ⟨wo.heap.size,3,none⟩=some (.int .i64 ua)) from fun W hW=>by
    have h:=hb5.trans (hW.mono (by simp;omega));exact ⟨(h.cell (p:=⟨wo.heap.size,0,none⟩) (by simp)).trans (by simp [go_sem]),(h.cell (p:=⟨wo.heap.size,1,none⟩) (by simp)).trans (by simp [go_sem]),(h.cell (p:=⟨wo.heap.size,2,none⟩) (by simp)).trans (by simp [go_sem]),(h.cell (p:=⟨wo.heap.size,3,none⟩) (by simp)).trans (by simp [go_sem])⟩)
   obtain ⟨f0,f1,f2,f3⟩:=KU5.out _ (Below.refl _ _);have hNI:PO.isNone=!PO.isSome:=by cases PO<;>rfl
   rw [hNI] at eF;generalize PO.isSome=IS at *;clear hb5 CP1 hpv hNI d0 d1 d2 d3 dN bG p0 p1 hz;obtain ⟨hB5,hz,p0,p1⟩:=KC.out _ tZ.out;have uT:=ah (fun (h0:0<k)=>HRW.out (k-1) (by omega) w5 hB5);have hb5:b<w5.heap.size:=by omega
   have wP:=ah (KA.out _ (.cells #[.string qn,.int .i64 qz,.slice qo ql qc] 71) tZ.out);clear hB5;rcases Bool.eq_false_or_eq_true (bU un 1 9999) with k0 | k0;rotate_left
   ·skip;have HE:FF=1:=by rw [eF.out];simp [k0]
    have HV:=ah (show RES=1 by rw [iO.out,iG.out (by rw [HE];decide),HE]);clear HE;go_wp2_with (first | (go_at_call 45;((with_reducible refine (aQ _ _ _ _).mono ?_);rintro e w' ⟨rfl,rfl⟩)) | fail);go_ret;exact ⟨by rw [HV.out]<;>rfl,(KC.out _ wP.out).1⟩
   have qy:=ah (show FF=if LW then 7 else if !IS then 5 else if BD then 1 else if (aD.take k).any CU then 12 else 0 by rw [eF.out];simp [k0]);go_upto_region 12 with (first | (go_at_call 45;((with_reducible refine (aQ _ _ _ _).mono ?_);rintro e w' ⟨rfl,rfl⟩)) | fail);clear eF k0;have eF:=qy;clear qy;go_cut [41] (fun s41 wx=>s41=.bool LW∧Below wx.heap.size (w5.alloc (.cells #[.string qn,.int .i64 qz,.slice qo ql qc] 71)) wx∧wx.heap.size=w5.heap.size+1)
   case first=>
    by_cases h0:k=0
    ·subst h0;have HV:=ah (pK.out rfl);clear uT xS pK;go_quiet (fail)
     go_wp2_with fail;all_goals go_meet
     all_goals exact ⟨by rw [HV.out]<;>rfl,eY (Below.refl _ _) _,by simp⟩
    ·obtain ⟨j,rfl⟩:∃j,k=j+1:=⟨k-1,by omega⟩;have qx:=ah (xS.out (by omega));obtain ⟨d4,_,_,_⟩:=uT.out (by omega);clear uT xS pK;simp only [Nat.add_sub_cancel] at d4;have hlow:(aD[j+1-1]'(by omega))=aD[j]:=by simp
     rw [hlow] at qx;clear hlow;generalize aD[j]=rj at *;obtain ⟨jn,jp,ju,ja⟩:=rj;simp only at d4;have hji:((j+1:Nat):Int)-1=(j:Int):=by omega
     by_cases hle:un≤jn
     ·skip;have HV:=ah (show LW=true by rw [qx.out];simpa using hle);clear qx;go_quiet (fail)
      go_wp2_with fail;all_goals go_meet
      all_goals exact ⟨by rw [HV.out]<;>rfl,eY (Below.refl _ _) _,by simp⟩
     ·skip;have HV:=ah (show LW=false by rw [qx.out];simpa using hle);clear qx;have OO:decide (un≤jn)=false:=by simpa using hle
      go_quiet (fail)
      go_wp2_with fail;all_goals go_meet
      all_goals exact ⟨by rw [HV.out]<;>rfl,eY (Below.refl _ _) _,by simp⟩
   case rest=>
    obtain ⟨rfl,hb3,hz3⟩:=hcut;have ng:=ah (KM.out _ wc wP.out (hb3.mono (by simp;omega)));obtain ⟨e0,e1,e2,e3⟩:=KU5.out wc (((Below.refl _ _).alloc (Nat.le_refl _) _).trans (hb3.mono (by omega)));clear hb3 xS pK uT wP tZ KU5 p0 p1 f0 f1 f2 f3;obtain ⟨hBc,_,p0,p1⟩:=KC.out wc ng.out;have hbc:b<wc.heap.size:=by omega
    have HBc:=ah hBc;clear hBc;cases LW;rotate_left
    ·skip;have HE:FF=7:=by rw [eF.out];rfl
     have HV:=ah (show RES=7 by rw [iO.out,iG.out (by rw [HE];decide),HE]);clear HE;go_wp2_with fail;go_ret;exact ⟨by rw [HV.out]<;>rfl,(KC.out _ ng.out).1⟩
    have qy:=ah (show FF=if !IS then 5 else if BD then 1 else if (aD.take k).any CU then 12 else 0 by rw [eF.out];rfl);clear eF;have eF:=qy;clear qy;cases IS
    ·skip;have HE:FF=5:=by rw [eF.out];rfl
     have HV:=ah (show RES=5 by rw [iO.out,iG.out (by rw [HE];decide),HE]);clear HE;go_wp2_with fail;go_ret;exact ⟨by rw [HV.out]<;>rfl,(KC.out _ ng.out).1⟩
    have hsx:=wM.out rfl;have HLU:=ah (fun W hb h1=>HLU.out W hb h1 hsx);have qy:=ah (show FF=if BD then 1 else if (aD.take k).any CU then 12 else 0 by rw [eF.out];rfl);clear eF wM;have eF:=qy;clear qy;go_upto_region 16 with fail;go_cut [59] (fun s59 wx=>s59=.bool BD∧Below wc.heap.size wc wx∧(BD=false→1≤ua∧ua≤512))
    case first=>
     rcases Bool.eq_false_or_eq_true (bU uu 1 64) with j0 | j0;rotate_left
     ·have HV:=ah (show BD=true by rw [pO.out];simp [j0]);go_wp2_with (first | (go_at_call 45;((with_reducible refine (aQ _ _ _ _).mono ?_);rintro e w' ⟨rfl,rfl⟩)) | fail);all_goals go_meet
      all_goals exact ⟨by rw [HV.out]<;>rfl,Below.refl _ _,fun h=>by rw [HV.out] at h;cases h⟩
     rcases Bool.eq_false_or_eq_true (bU ua 1 512) with j1 | j1;rotate_left
     ·have HV:=ah (show BD=true by rw [pO.out];simp [j0,j1]);go_wp2_with (first | (go_at_call 45;((with_reducible refine (aQ _ _ _ _).mono ?_);rintro e w' ⟨rfl,rfl⟩)) | fail);all_goals go_meet
      all_goals exact ⟨by rw [HV.out]<;>rfl,Below.refl _ _,fun h=>by rw [HV.out] at h;cases h⟩
     have HLV:=ah (HLU.out wc HBc.out (iU j1));by_cases j2:512<LU
     ·have HV:=ah (show BD=true by rw [pO.out];simp [j2]);have j3:decide (512<LU)=true:=by simpa using j2
      go_wp2_with (first | (first | (go_at_call 45;((with_reducible refine (aQ _ _ _ _).mono ?_);rintro e w' ⟨rfl,rfl⟩)) | fail) | (go_at_call 58;refine HLV.out.mono ?_;rintro e w' ⟨rfl,hbl⟩));all_goals go_meet
      all_goals exact ⟨by rw [HV.out]<;>rfl,by assumption,fun h=>by rw [HV.out] at h;cases h⟩
     ·have HV:=ah (show BD=false by rw [pO.out];simp [j0,j1];omega);have j3:decide (512<LU)=false:=by simpa using j2
      have HJ1:=ah (iU j1);go_wp2_with (first | (first | (go_at_call 45;((with_reducible refine (aQ _ _ _ _).mono ?_);rintro e w' ⟨rfl,rfl⟩)) | fail) | (go_at_call 58;refine HLV.out.mono ?_;rintro e w' ⟨rfl,hbl⟩));all_goals go_meet
      all_goals exact ⟨by rw [HV.out]<;>rfl,by assumption,fun _=>HJ1.out⟩
    case rest=>
     obtain ⟨rfl,hbd,hua⟩:=hcut;obtain ⟨wd,rfl⟩:∃x,x=wc:=⟨_,rfl⟩;have Qk:=ah (KM.out _ wd ng.out hbd);have hzd:=hbd.size;clear HBc p0 p1;obtain ⟨hBd,hzz,p0,p1⟩:=KC.out wd Qk.out;have HBd:=ah hBd
     have KU:=ah (show ∀W,Below wd.heap.size wd W→(W.cell? ⟨wo.heap.size,0,none⟩=some (.int .i64 un)∧W.cell? ⟨wo.heap.size,1,none⟩=some (.string up)∧W.cell? ⟨wo.heap.size,2,none⟩=some (.int .i64 uu)∧W.cell? ⟨wo.heap.size,3,none⟩=some (.int .i64 ua)) from fun W hW=>by
      have h:=hbd.trans (hW.mono (by omega));exact ⟨(h.cell (p:=⟨wo.heap.size,0,none⟩) (by simp;omega)).trans e0,(h.cell (p:=⟨wo.heap.size,1,none⟩) (by simp;omega)).trans e1,(h.cell (p:=⟨wo.heap.size,2,none⟩) (by simp;omega)).trans e2,(h.cell (p:=⟨wo.heap.size,3,none⟩) (by simp;omega)).trans e3⟩)
     have hwd:wo.heap.size<wd.heap.size:=by omega
     clear hBd hbd e0 e1 e2 e3;cases BD;rotate_left
     ·skip;have HE:FF=1:=by rw [eF.out];rfl
      have HV:=ah (show RES=1 by rw [iO.out,iG.out (by rw [HE];decide),HE]);clear HE;go_wp2_with fail;go_ret;exact ⟨by rw [HV.out]<;>rfl,(KC.out _ Qk.out).1⟩
     have hua:=hua rfl;have HLU:=ah (fun W hb=>HLU.out W hb hua);have qy:=ah (show FF=if (aD.take k).any CU then 12 else 0 by rw [eF.out];rfl);clear eF pO;have eF:=qy;clear qy;have hi1:(0:Int)≤(k:Int):=by omega
     have hi2:(k:Int)≤(dG:Int):=by omega
     have hi3:k≤dG:=by omega
     go_wp2_with fail;clear p0 p1;go_loopw [81] (fun i wx=>∃j:Nat,j≤k∧i=.int .i64 j∧Hid ((aD.take j).any CU=false)∧Hid (Below wd.heap.size wd wx)) (fun i _=>k-(intOf i).toNat)
     case atStart=>exact ⟨0,Nat.zero_le _,rfl,ah (by simp),ah (Below.refl _ _)⟩
     case round=>
      obtain ⟨j,hj,rfl,wN,uW⟩:=hrel;have hzi:=uW.out.size;obtain ⟨e0,e1,e2,e3⟩:=KU.out wr uW.out;have DK:=ah (KM.out _ _ Qk.out uW.out);obtain ⟨hBn,_,p0,p1⟩:=KC.out _ DK.out;have hbi:b<wr.heap.size:=by omega
      have hor:wo.heap.size<wr.heap.size:=by omega
      have hor2:w.heap.size<wr.heap.size:=by omega
      by_cases hjlt:j<k
      ·have hjl:j<aD.length:=by omega
       obtain ⟨d0,d1,d2,d3⟩:=HRW.out j hjl wr hBn;have HS:=HUS.out _ _ (F9.out j hjl hjlt);have qx:=ah (fun W (hb:Below w.heap.size w W)=>AJ lo (some ⟨b,off,none⟩) dJ aD.length dG lib aD[j] W (HPL.out W hb) (by omega) (by omega) (by omega) (by omega));have HCD:=ah (HCJ.out aD[j]);have uV:=ah (Fh CU aD j hjl);have nQ:=ah (PU CU aD k j hjl hjlt);generalize CU aD[j]=CJ at *;generalize lastOf lib aD[j]=LX at *;generalize sizeOf' lib aD[j]=SX at *;clear hBn HS;generalize kM:aD[j]=rk at *;clear kM;obtain ⟨xn,xp,xu,xa⟩:=rk;simp only at *;have dN:=ah (uW.out.alloc hzi (.cells #[.int .i64 xn,.string xp,.int .i64 xu,.int .i64 xa] 67));go_upto_region 21 with fail
       have KQ:=ah (show ∀W,Below (wr.alloc (.cells #[.int .i64 xn,.string xp,.int .i64 xu,.int .i64 xa] 67)).heap.size (wr.alloc (.cells #[.int .i64 xn,.string xp,.int .i64 xu,.int .i64 xa] 67)) W→(Below w.heap.size w W∧Below wd.heap.size wd W∧W.cell? ⟨w.heap.size,0,none⟩=some (.slice lo lib.length dJ)∧W.cell? ⟨w.heap.size,1,none⟩=some (.slice (some ⟨b,off,none⟩) aD.length dG)∧W.cell? ⟨wo.heap.size,0,none⟩=some (.int .i64 un)∧W.cell? ⟨wo.heap.size,1,none⟩=some (.string up)∧W.cell? ⟨wo.heap.size,2,none⟩=some (.int .i64 uu)∧W.cell? ⟨wo.heap.size,3,none⟩=some (.int .i64 ua)∧W.cell? ⟨wr.heap.size,0,none⟩=some (.int .i64 xn)∧W.cell? ⟨wr.heap.size,1,none⟩=some (.string xp)∧W.cell? ⟨wr.heap.size,2,none⟩=some (.int .i64 xu)∧W.cell? ⟨wr.heap.size,3,none⟩=some (.int .i64 xa)) from fun W hW=>by
        have h0:Below wr.heap.size wr W:=((Below.refl _ _).alloc (Nat.le_refl _) _).trans (hW.mono (by simp));obtain ⟨hn1,_,hn2,vQ⟩:=KC.out _ (KM.out _ _ DK.out h0);obtain ⟨g0,g1,g2,g3⟩:=KU.out _ (uW.out.trans (h0.mono hzi));exact ⟨hn1,uW.out.trans (h0.mono hzi),hn2,vQ,g0,g1,g2,g3,(hW.cell (p:=⟨wr.heap.size,0,none⟩) (by simp)).trans (by simp [go_sem]),(hW.cell (p:=⟨wr.heap.size,1,none⟩) (by simp)).trans (by simp [go_sem]),(hW.cell (p:=⟨wr.heap.size,2,none⟩) (by simp)).trans (by simp [go_sem]),(hW.cell (p:=⟨wr.heap.size,3,none⟩) (by simp)).trans (by simp [go_sem])⟩)
       clear e0 e1 e2 e3 p0 p1 d0 d1 d2 d3 dN;generalize hW0:wr.alloc (.cells #[.int .i64 xn,.string xp,.int .i64 xu,.int .i64 xa] 67)=W0 at *;clear hW0;have KM0:=ah (show ∀W W1,Below W0.heap.size W0 W→Below W.heap.size W W1→Below W0.heap.size W0 W1 from fun W W1 h1 h2=>h1.trans (h2.mono h1.size));have KB:=ah (show ∀W,Below W0.heap.size W0 W→Below w.heap.size w W from fun W hW=>(KQ.out W hW).1);have hw0:Below W0.heap.size W0 W0:=Below.refl _ _;obtain ⟨_,_,p0,p1,e0,e1,e2,e3,x0,x1,x2,x3⟩:=KQ.out _ hw0;go_cut [105] (fun s105 wx=>s105=.bool CJ∧Below W0.heap.size W0 wx)
       case first=>
        by_cases c1:xu=uu;rotate_left
        ·have c2:(xu==uu)=false:=by simpa using c1
         have HV:=ah (show CJ=false by rw [HCD.out];simp [c1]);go_quiet (fail)
         go_wp2_with fail;all_goals go_meet
         all_goals exact ⟨by rw [HV.out]<;>rfl,eY (by assumption) _⟩
        have c2:(xu==uu)=true:=by simpa using c1
        by_cases c3:xa≤LU;rotate_left
        ·have c4:decide (xa≤LU)=false:=by simpa using c3
         have HV:=ah (show CJ=false by rw [HCD.out];simp [c3]);clear c1 c3;refine wp_region_held_drew (S:=(fun W=>W.cell? ⟨w.heap.size,0,none⟩=some (.slice lo lib.length dJ)∧W.cell? ⟨w.heap.size,1,none⟩=some (.slice (some ⟨b,off,none⟩) aD.length dG)∧W.cell? ⟨wo.heap.size,0,none⟩=some (.int .i64 un)∧W.cell? ⟨wo.heap.size,1,none⟩=some (.string up)∧W.cell? ⟨wo.heap.size,2,none⟩=some (.int .i64 uu)∧W.cell? ⟨wo.heap.size,3,none⟩=some (.int .i64 ua)∧W.cell? ⟨wr.heap.size,0,none⟩=some (.int .i64 xn)∧W.cell? ⟨wr.heap.size,1,none⟩=some (.string xp)∧W.cell? ⟨wr.heap.size,2,none⟩=some (.int .i64 xu)∧W.cell? ⟨wr.heap.size,3,none⟩=some (.int .i64 xa))) (by kernel_rfl) (by first | exact (KQ.out _ (by assumption)).2.2 | exact (KQ.out _ (Below.drew (by assumption))).2.2) (fun hHeld=>?_);refine wpAnyH_take (i:=0) (oi:=_) (v:=?_) rfl (by kernel_rfl) (by kernel_rfl) (by kernel_rfl) (fun _ _ _ h=>h) (Or.inl ⟨by rfl,?_⟩) (by assumption) ?_;rotate_left
         ·(intro w hSw;(try dsimp only at hSw);go_simp<;>with_reducible rfl)
         try simp only [Act.put,List.getElem_toArray,List.getElem_cons_zero,List.getElem_cons_succ,List.setIfInBounds_toArray,List.set_cons_zero,List.set_cons_succ]
         refine wpAnyH_take (i:=1) (oi:=_) (v:=?_) rfl (by kernel_rfl) (by kernel_rfl) (by kernel_rfl) (fun _ _ _ h=>h) (Or.inl ⟨by rfl,?_⟩) (by assumption) ?_;rotate_left
         ·(intro w hSw;(try dsimp only at hSw);go_simp<;>with_reducible rfl)
         try simp only [Act.put,List.getElem_toArray,List.getElem_cons_zero,List.getElem_cons_succ,List.setIfInBounds_toArray,List.set_cons_zero,List.set_cons_succ]
         refine wpAnyH_take (i:=2) (oi:=_) (v:=?_) rfl (by kernel_rfl) (by kernel_rfl) (by kernel_rfl) (fun _ _ _ h=>h) (Or.inl ⟨by rfl,?_⟩) (by assumption) ?_;rotate_left
         ·(intro w hSw;(try dsimp only at hSw);go_simp<;>with_reducible rfl)
         try simp only [Act.put,List.getElem_toArray,List.getElem_cons_zero,List.getElem_cons_succ,List.setIfInBounds_toArray,List.set_cons_zero,List.set_cons_succ]
         refine wpAnyH_take (i:=3) (oi:=_) (v:=?_) rfl (by kernel_rfl) (by kernel_rfl) (by kernel_rfl) (fun _ _ _ h=>h) (Or.inl ⟨by rfl,?_⟩) (by assumption) ?_;rotate_left
         ·(intro w hSw;(try dsimp only at hSw);go_simp<;>with_reducible rfl)
         try simp only [Act.put,List.getElem_toArray,List.getElem_cons_zero,List.getElem_cons_succ,List.setIfInBounds_toArray,List.set_cons_zero,List.set_cons_succ]
         refine wpAnyH_take (i:=4) (oi:=_) (v:=?_) rfl (by kernel_rfl) (by kernel_rfl) (by kernel_rfl) (fun _ _ _ h=>h) (Or.inl ⟨by rfl,?_⟩) (by assumption) ?_;rotate_left
         ·(intro w hSw;(try dsimp only at hSw);go_simp<;>with_reducible rfl)
         try simp only [Act.put,List.getElem_toArray,List.getElem_cons_zero,List.getElem_cons_succ,List.setIfInBounds_toArray,List.set_cons_zero,List.set_cons_succ]
         refine wpAnyH_take (i:=5) (oi:=_) (v:=?_) rfl (by kernel_rfl) (by kernel_rfl) (by kernel_rfl) (fun _ _ _ h=>h) (Or.inl ⟨by rfl,?_⟩) (by assumption) ?_;rotate_left
         ·(intro w hSw;(try dsimp only at hSw);go_simp<;>with_reducible rfl)
         try simp only [Act.put,List.getElem_toArray,List.getElem_cons_zero,List.getElem_cons_succ,List.setIfInBounds_toArray,List.set_cons_zero,List.set_cons_succ]
         refine wpAnyH_take (i:=6) (oi:=_) (v:=?_) rfl (by kernel_rfl) (by kernel_rfl) (by kernel_rfl) (fun _ _ _ h=>h) (Or.inl ⟨by rfl,?_⟩) (by assumption) ?_;rotate_left
         ·(intro w hSw;(try dsimp only at hSw);go_simp<;>with_reducible rfl)
         try simp only [Act.put,List.getElem_toArray,List.getElem_cons_zero,List.getElem_cons_succ,List.setIfInBounds_toArray,List.set_cons_zero,List.set_cons_succ]
         refine wpAnyH_take (i:=7) (oi:=_) (v:=?_) rfl (by kernel_rfl) (by kernel_rfl) (by kernel_rfl) (fun _ _ _ h=>h) (Or.inl ⟨by rfl,?_⟩) (by assumption) ?_;rotate_left
         ·(intro w hSw;(try dsimp only at hSw);go_simp<;>with_reducible rfl)
         try simp only [Act.put,List.getElem_toArray,List.getElem_cons_zero,List.getElem_cons_succ,List.setIfInBounds_toArray,List.set_cons_zero,List.set_cons_succ]
         refine wpAnyH_take (i:=8) (oi:=_) (v:=?_) rfl (by kernel_rfl) (by kernel_rfl) (by kernel_rfl) (fun _ _ _ h=>h) (Or.inl ⟨by rfl,?_⟩) (by assumption) ?_;rotate_left
         ·(intro w hSw;(try dsimp only at hSw);go_simp<;>with_reducible rfl)
         try simp only [Act.put,List.getElem_toArray,List.getElem_cons_zero,List.getElem_cons_succ,List.setIfInBounds_toArray,List.set_cons_zero,List.set_cons_succ]
         refine wpAnyH_take (i:=9) (oi:=_) (v:=?_) rfl (by kernel_rfl) (by kernel_rfl) (by kernel_rfl) (fun _ _ _ h=>h) (Or.inl ⟨by rfl,?_⟩) (by assumption) ?_;rotate_left
         ·(intro w hSw;(try dsimp only at hSw);go_simp<;>with_reducible rfl)
         try simp only [Act.put,List.getElem_toArray,List.getElem_cons_zero,List.getElem_cons_succ,List.setIfInBounds_toArray,List.set_cons_zero,List.set_cons_succ]
         refine wpAnyH_ready (rs:=[10]) (by kernel_rfl) (by simp) (AllReadyH.cons rfl (fun K hK=>?_) AllReadyH.nil);go_simp;(first | (go_at_call 58;(with_reducible refine (HLU.out _ (by first | exact KB.out _ (by assumption) | exact KB.out _ (Below.drew (by assumption)))).mono ?_);rintro e WC ⟨rfl,hbC⟩;have F4:=KM0.out _ _ (by first | assumption | exact Below.drew (by assumption)) hbC;clear hbC) | (go_at_call 58;(with_reducible refine (qx.out _ (by first | exact KB.out _ (by assumption) | exact KB.out _ (Below.drew (by assumption)))).mono ?_);rintro e WC ⟨rfl,hbC⟩;have F4:=KM0.out _ _ (by first | assumption | exact Below.drew (by assumption)) hbC;clear hbC) | fail)
         (try go_wp2_with fail)
         refine hK.out _ _ (by first | exact (KQ.out _ (by assumption)).2.2 | exact (KQ.out _ (Below.drew (by assumption))).2.2) (fun hHeld=>?_);clear hK K;try simp only [Act.put,List.getElem_toArray,List.getElem_cons_zero,List.getElem_cons_succ,List.setIfInBounds_toArray,List.set_cons_zero,List.set_cons_succ]
         refine wpAnyH_take (i:=11) (oi:=_) (v:=?_) rfl (by kernel_rfl) (by kernel_rfl) (by kernel_rfl) (fun _ _ _ h=>h) (Or.inl ⟨by rfl,?_⟩) (by assumption) ?_;rotate_left
         ·(intro w hSw;(try dsimp only at hSw);go_simp<;>with_reducible rfl)
         try simp only [Act.put,List.getElem_toArray,List.getElem_cons_zero,List.getElem_cons_succ,List.setIfInBounds_toArray,List.set_cons_zero,List.set_cons_succ]
         refine wpAnyH_take (i:=12) (oi:=_) (v:=?_) rfl (by kernel_rfl) (by kernel_rfl) (by kernel_rfl) (fun _ _ _ h=>h) (Or.inl ⟨by rfl,?_⟩) (by assumption) ?_;rotate_left
         ·(intro w hSw;(try dsimp only at hSw);go_simp<;>with_reducible rfl)
         try simp only [Act.put,List.getElem_toArray,List.getElem_cons_zero,List.getElem_cons_succ,List.setIfInBounds_toArray,List.set_cons_zero,List.set_cons_succ]
         refine wpAnyH_take (i:=13) (oi:=_) (v:=?_) rfl (by kernel_rfl) (by kernel_rfl) (by kernel_rfl) (fun _ _ _ h=>h) (Or.inl ⟨by rfl,?_⟩) (by assumption) ?_;rotate_left
         ·(intro w hSw;(try dsimp only at hSw);go_simp<;>with_reducible rfl)
         try simp only [Act.put,List.getElem_toArray,List.getElem_cons_zero,List.getElem_cons_succ,List.setIfInBounds_toArray,List.set_cons_zero,List.set_cons_succ]
         refine wpAnyH_take (i:=14) (oi:=_) (v:=undef) rfl (by kernel_rfl) (by kernel_rfl) (by kernel_rfl) (fun _ _ _ h=>h) (Or.inr ⟨by rfl,rfl⟩) (by assumption) ?_;try simp only [Act.put,List.getElem_toArray,List.getElem_cons_zero,List.getElem_cons_succ,List.setIfInBounds_toArray,List.set_cons_zero,List.set_cons_succ]
         refine wpAnyH_take (i:=15) (oi:=_) (v:=undef) rfl (by kernel_rfl) (by kernel_rfl) (by kernel_rfl) (fun _ _ _ h=>h) (Or.inr ⟨by rfl,rfl⟩) (by assumption) ?_;try simp only [Act.put,List.getElem_toArray,List.getElem_cons_zero,List.getElem_cons_succ,List.setIfInBounds_toArray,List.set_cons_zero,List.set_cons_succ]
         refine wpAnyH_take (i:=16) (oi:=_) (v:=undef) rfl (by kernel_rfl) (by kernel_rfl) (by kernel_rfl) (fun _ _ _ h=>h) (Or.inr ⟨by rfl,rfl⟩) (by assumption) ?_;try simp only [Act.put,List.getElem_toArray,List.getElem_cons_zero,List.getElem_cons_succ,List.setIfInBounds_toArray,List.set_cons_zero,List.set_cons_succ]
         refine wpAnyH_take (i:=17) (oi:=_) (v:=undef) rfl (by kernel_rfl) (by kernel_rfl) (by kernel_rfl) (fun _ _ _ h=>h) (Or.inr ⟨by rfl,rfl⟩) (by assumption) ?_;try simp only [Act.put,List.getElem_toArray,List.getElem_cons_zero,List.getElem_cons_succ,List.setIfInBounds_toArray,List.set_cons_zero,List.set_cons_succ]
         refine wpAnyH_take (i:=18) (oi:=_) (v:=undef) rfl (by kernel_rfl) (by kernel_rfl) (by kernel_rfl) (fun _ _ _ h=>h) (Or.inr ⟨by rfl,rfl⟩) (by assumption) ?_;try simp only [Act.put,List.getElem_toArray,List.getElem_cons_zero,List.getElem_cons_succ,List.setIfInBounds_toArray,List.set_cons_zero,List.set_cons_succ]
         refine wpAnyH_take (i:=19) (oi:=_) (v:=undef) rfl (by kernel_rfl) (by kernel_rfl) (by kernel_rfl) (fun _ _ _ h=>h) (Or.inr ⟨by rfl,rfl⟩) (by assumption) ?_;try simp only [Act.put,List.getElem_toArray,List.getElem_cons_zero,List.getElem_cons_succ,List.setIfInBounds_toArray,List.set_cons_zero,List.set_cons_succ]
         refine wpAnyH_take (i:=20) (oi:=_) (v:=?_) rfl (by kernel_rfl) (by kernel_rfl) (by kernel_rfl) (fun _ _ _ h=>h) (Or.inl ⟨by rfl,?_⟩) (by assumption) ?_;rotate_left
         ·(intro w hSw;(try dsimp only at hSw);go_simp<;>with_reducible rfl)
         try simp only [Act.put,List.getElem_toArray,List.getElem_cons_zero,List.getElem_cons_succ,List.setIfInBounds_toArray,List.set_cons_zero,List.set_cons_succ]
         refine wpAnyH_done (by kernel_rfl) ?_ _;all_goals go_wp2_with fail
         all_goals go_meet
         all_goals exact ⟨by rw [HV.out]<;>rfl,by first | assumption | exact Below.drew (by assumption)⟩
        have c4:decide (xa≤LU)=true:=by simpa using c3
        have HV:=ah (show CJ=decide (ua≤LX) by rw [HCD.out];simp [c1,c3]);clear c1 c3
        go_region_held3 (fun W=>W.cell? ⟨w.heap.size,0,none⟩=some (.slice lo lib.length dJ)∧W.cell? ⟨w.heap.size,1,none⟩=some (.slice (some ⟨b,off,none⟩) aD.length dG)∧W.cell? ⟨wo.heap.size,0,none⟩=some (.int .i64 un)∧W.cell? ⟨wo.heap.size,1,none⟩=some (.string up)∧W.cell? ⟨wo.heap.size,2,none⟩=some (.int .i64 uu)∧W.cell? ⟨wo.heap.size,3,none⟩=some (.int .i64 ua)∧W.cell? ⟨wr.heap.size,0,none⟩=some (.int .i64 xn)∧W.cell? ⟨wr.heap.size,1,none⟩=some (.string xp)∧W.cell? ⟨wr.heap.size,2,none⟩=some (.int .i64 xu)∧W.cell? ⟨wr.heap.size,3,none⟩=some (.int .i64 xa))
         (first | exact (KQ.out _ (by assumption)).2.2 | exact (KQ.out _ (Below.drew (by assumption))).2.2)
         (first | (go_at_call 58;(with_reducible refine (HLU.out _ (by first | exact KB.out _ (by assumption) | exact KB.out _ (Below.drew (by assumption)))).mono ?_);rintro e WC ⟨rfl,hbC⟩;have F4:=KM0.out _ _ (by first | assumption | exact Below.drew (by assumption)) hbC;clear hbC) | (go_at_call 58;(with_reducible refine (qx.out _ (by first | exact KB.out _ (by assumption) | exact KB.out _ (Below.drew (by assumption)))).mono ?_);rintro e WC ⟨rfl,hbC⟩;have F4:=KM0.out _ _ (by first | assumption | exact Below.drew (by assumption)) hbC;clear hbC) | fail)
        all_goals go_wp2_with fail
        all_goals go_meet
        all_goals exact ⟨by rw [HV.out]<;>rfl,by first | assumption | exact Below.drew (by assumption)⟩
       case rest=>
        obtain ⟨rfl,hbj⟩:=hcut;have HBJ:=ah (KQ.out _ hbj).2.1;have HBK:=ah (KQ.out _ hbj).1;clear hbj KQ KB KM0 hw0 p0 p1 e0 e1 e2 e3 x0 x1 x2 x3;cases CJ;rotate_left
        ·skip;have HE:FF=12:=by rw [eF.out];rw [nQ.out rfl];rfl
         have HV:=ah (show RES=12 by rw [iO.out,iG.out (by rw [HE];decide),HE]);clear HE;go_wp2_with fail;go_ret;exact ⟨by rw [HV.out]<;>rfl,HBK.out⟩
        have HV:=ah (show (aD.take (j+1)).any CU=false by rw [uV.out,wN.out];rfl);go_wp2_with fail;go_roundw
        case rel=>exact ⟨j+1,by omega,by go_num,HV,HBJ⟩
        case measure=>simp [intOf];omega
      ·have hjk:j=k:=by omega
       subst hjk;have HE:FF=0:=by rw [eF.out,wN.out];rfl
       have HV:=ah (show RES=bP (jm lib) aD (j+1) by rw [iO.out,rG.out HE]);have IL:=ah (Dl.out HE);clear HE wN hBn Dl F9;go_wp2_with fail;go_roundw
       case rel=>exact ⟨j+1,by omega,by go_num,HV,IL,DK⟩
       case measure=>simp [intOf];omega
  ·have HV:=ah (show RES=0 by rw [iO.out,fO (jm lib) aD k (by omega)]);have HBO:=ah hB;have hkk:k=aD.length:=by omega
   clear hB;subst hkk;go_wp2_with fail;go_ret;exact ⟨by rw [HV.out]<;>rfl,HBO.out⟩
end Go.Proofs.YtopmdeefcjdadaaGreat
