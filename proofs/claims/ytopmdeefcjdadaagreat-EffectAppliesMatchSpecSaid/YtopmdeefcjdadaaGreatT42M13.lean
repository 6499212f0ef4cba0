import Derived.Test.YtopmdeefcjdadaaGreatT42M00
import Derived.Test.YtopmdeefcjdadaaGreatT42M09
import Derived.Test.YtopmdeefcjdadaaGreatT42M12
set_option linter.unusedVariables false
set_option linter.unusedSimpArgs false
set_option maxRecDepth 100000
set_option maxHeartbeats 32000000
namespace Go.Proofs.YtopmdeefcjdadaaGreat
open Go.RowKit
theorem Li {lib:List Prf} (hl:eY lib=0) {pre:List gX} {u:gX} (h:jB lib pre u=0):(1≤u.addr∧u.addr≤512)∧(1≤sizeOf' lib u∧sizeOf' lib u≤512):=by
 obtain ⟨_,_,⟨p,h1,h2⟩,_⟩:=mQ h;exact ⟨(kE h2).2.1,by rw [sS h1];exact size_pos hl h1⟩
theorem Gy {α:Type} (f:α→Bool) (l:List α) (k:Nat) (h:k<l.length):(l.take (k+1)).any f=((l.take k).any f||f l[k]):=by
 rw [List.take_succ_eq_append_getElem h,List.any_append];simp
theorem Rz {α:Type} (f:α→Bool) (l:List α) (k j:Nat) (h:j<l.length) (hj:j<k) (h1:f l[j]=true):(l.take k).any f=true:=by
 rw [List.any_eq_true];refine ⟨l[j],?_,h1⟩;have h3:j<(l.take k).length:=by rw [List.length_take];omega
 have h4:(l.take k)[j]=l[j]:=List.getElem_take;rw [←h4];exact List.getElem_mem h3
theorem IJ {B:Nat} {w:World} {o:Option Prf} {v:Value} (h:Bo B w o v):∃qn qz qo ql qc,v=.agg #[.string qn,.int .i64 qz,.slice qo ql qc]:=by
 cases o with
 | none=>exact ⟨_,_,_,_,_,h⟩
 | some p=>
  obtain ⟨pv,rfl,hp⟩:=h;obtain ⟨ao,cap,rfl⟩:=gQ hp;exact ⟨_,_,_,_,_,rfl⟩
theorem zI (x:iK) (lv uv:Value) (w:World) (h:kV w.heap.size w x lv uv) (hf:uO x) :
  Calls Tryz.prog 24 #[mG lv uv] w fun e w'=>e=.returned (.int .i64 (bR x))∧Below w.heap.size w w':=by
 have CL:=ah (fun W (hb:Below w.heap.size w W)=>zK lv x.lib W ((h.lib.below hb).more hb.size) hf.1);have CP:=ah (fun (nm:ByteArray) W (hb:Below w.heap.size w W)=>uZ lv x.lib nm W ((h.lib.below hb).more hb.size));have HPL:=ah (fun W (hb:Below w.heap.size w W)=>(h.lib.below hb).more hb.size);have HG:=ah (qH.get h.aF);have HF:=ah hf.2;obtain ⟨uo,dR,rfl,_⟩:=aW.shape h.aF;obtain ⟨lo,dU,rfl⟩:=iH h.lib;have hcp:=yZ h.aF;clear h hf;obtain ⟨lib,aF⟩:=x;simp only [mG] at *;have uV:=ah (show bR ⟨lib,aF⟩=if eY lib≠0 then eY lib else if 400<aF.length then 2 else bQ (jB lib) aF 0 from rfl);generalize bR ⟨lib,aF⟩=RES at *
 have KC:=ah (show ∀W,Below (w.heap.size+1) (w.alloc (.cells #[.slice lo lib.length dU,.slice uo aF.length dR] 25)) W→(Below w.heap.size w W∧w.heap.size<W.heap.size∧W.cell? ⟨w.heap.size,0,none⟩=some (.slice lo lib.length dU)∧W.cell? ⟨w.heap.size,1,none⟩=some (.slice uo aF.length dR)) from fun W hW=>by
  have hz:=hW.size;simp at hz;exact ⟨((Below.refl _ _).alloc (Nat.le_refl _) _).trans (hW.mono (by omega)),by omega,(hW.cell (p:=⟨w.heap.size,0,none⟩) (by simp)).trans (by simp [go_sem]),(hW.cell (p:=⟨w.heap.size,1,none⟩) (by simp)).trans (by simp [go_sem])⟩)
 have KA:=ah (show ∀W o,Below (w.heap.size+1) (w.alloc (.cells #[.slice lo lib.length dU,.slice uo aF.length dR] 25)) W→Below (w.heap.size+1) (w.alloc (.cells #[.slice lo lib.length dU,.slice uo aF.length dR] 25)) (W.alloc o) from fun W o h=>h.alloc (by have:=h.size;simp at this;omega) o);have KM:=ah (show ∀W W1,Below (w.heap.size+1) (w.alloc (.cells #[.slice lo lib.length dU,.slice uo aF.length dR] 25)) W→Below W.heap.size W W1→Below (w.heap.size+1) (w.alloc (.cells #[.slice lo lib.length dU,.slice uo aF.length dR] 25)) W1 from fun W W1 h1 h2=>h1.trans (h2.mono (by have:=h1.size;simp at this;omega)));have HK0:=ah (Below.refl (w.heap.size+1) (w.alloc (.cells #[.slice lo lib.length dU,.slice uo aF.length dR] 25)));have CL1:=ah (CL.out _ (KC.out _ HK0.out).1);clear CL;go_enter Tryz.func24,Tryz.ntmps24;go_wp2_with fail;refine CL1.out.mono ?_;rintro e w2 ⟨rfl,hb2⟩;have HB2:=ah (KM.out _ _ HK0.out hb2);clear hb2 CL1;obtain ⟨hB2,hz2,p0,p1⟩:=KC.out _ HB2.out;by_cases hE:eY lib=0;rotate_left
 ·have HV:=ah (show RES=eY lib by rw [uV.out,if_pos hE]);have nM:=ah hB2;clear hB2;generalize eY lib=E at *;go_wp2_with fail;go_ret;exact ⟨by rw [HV.out]<;>rfl,nM.out⟩
 have hC1:RES=if 400<aF.length then 2 else bQ (jB lib) aF 0:=by rw [uV.out,if_neg (by simpa using hE)]
 have EA:=ah hC1;have HUS:=ah (fun (pre:List gX) (u:gX) (h:jB lib pre u=0)=>Li hE h);have yT:=ah (fun (u:gX) (p:Prf) (h:cZ lib u.nm=some p)=>size_pos hE h);clear uV hC1;rw [hE];clear hE;by_cases h4:400<aF.length
 ·have HV:=ah (show RES=2 by rw [EA.out,if_pos h4]);have nM:=ah hB2;clear hB2;go_wp2_with fail;go_ret;exact ⟨by rw [HV.out]<;>rfl,nM.out⟩
 have HC:=ah (show RES=bQ (jB lib) aF 0 by rw [EA.out,if_neg h4]);have h31:aF.length≤400:=by omega
 clear EA h4 hB2;go_wp2_with fail;clear p0 p1 hz2;go_loopw [23] (fun i wx=>∃k:Nat,k≤aF.length∧i=.int .i64 k∧Hid (RES=bQ (jB lib) aF k)∧Hid (∀j (hj:j<aF.length),j<k→jB lib (aF.take j) aF[j]=0)∧Hid (Below (w.heap.size+1) (w.alloc (.cells #[.slice lo lib.length dU,.slice uo aF.length dR] 25)) wx)) (fun i _=>aF.length-(intOf i).toNat)
 case atStart=>exact ⟨0,Nat.zero_le _,rfl,HC,ah (fun j _ h=>absurd h (Nat.not_lt_zero _)),HB2⟩
 case round=>
  clear HC HB2;obtain ⟨k,hk,rfl,gW,Ht,bA⟩:=hrel;obtain ⟨wo,rfl⟩:∃wo:World,wo=wr:=⟨_,rfl⟩;obtain ⟨hB,hz,p0,p1⟩:=KC.out wo bA.out;by_cases hlt:k<aF.length
  ·obtain ⟨b,off,cap',hsl,hb,_,hc⟩:=HG.out (by omega);injection hsl with hs1 hs2 hs3;subst hs1 hs3;obtain ⟨d0,d1,d2,d3⟩:=hc k hlt wo hB;have HRW:=ah hc;have hbr:b<wo.heap.size:=by have:=hB.size;omega
   have sN:=ah (fD (jB lib) aF k hlt);have iB:=ah (gD (jB lib) aF k hlt);have eZ:=ah (show jB lib (aF.take k) aF[k]=if !bW aF[k].num 1 9999 then 1 else if kD (aF.take k) aF[k] then 7 else if (cZ lib aF[k].nm).isNone then 5 else if jc aF[k] (sizeOf' lib aF[k]) then 1 else if (aF.take k).any (jR lib aF[k]) then 12 else 0 from rfl);have qK:=ah (show k=0→kD (aF.take k) aF[k]=false from fun h0=>by subst h0;rfl);have yX:=ah (show ∀h0:0<k,kD (aF.take k) aF[k]=decide (aF[k].num≤(aF[k-1]'(by omega)).num) from fun h0=>by unfold kD;rw [oU aF k hlt h0];rfl)
   have Eu:=ah (show jB lib (aF.take k) aF[k]=0→∀j (hj:j<aF.length),j<k+1→jB lib (aF.take j) aF[j]=0 from fun h j hj hjk=>by
    by_cases c:j=k
    ·subst c;exact h
    ·exact Ht.out j hj (by omega))
   have oo:=ah (show (cZ lib aF[k].nm).isSome=true→1≤sizeOf' lib aF[k]∧sizeOf' lib aF[k]≤512 from fun h=>by
    obtain ⟨p,hp⟩:=Option.isSome_iff_exists.1 h;rw [sS hp];exact yT.out _ _ hp)
   have qQ:=ah (show jc aF[k] (sizeOf' lib aF[k])=(!bW aF[k].univ 1 64||!bW aF[k].addr 1 512||decide (512<lastOf lib aF[k])) from rfl);have HCJ:=ah (fun (y:gX)=>show jR lib aF[k] y=(decide (y.univ=aF[k].univ)&&decide (y.addr≤lastOf lib aF[k])&&decide (aF[k].addr≤lastOf lib y)) from rfl);have HLU:=ah (fun W (hb:Below w.heap.size w W) (h1:1≤aF[k].addr∧aF[k].addr≤512) (h2:1≤sizeOf' lib aF[k]∧sizeOf' lib aF[k]≤512)=>BM lo (some ⟨b,off,none⟩) dU aF.length dR lib aF[k] W (HPL.out W hb) (by omega) (by omega) (by omega) (by omega));have hnm:aF[k].nm=aF[k].zQ.data.toList:=rfl;rw [hnm] at eZ oo;generalize kD (aF.take k) aF[k]=LW at *;generalize jB lib (aF.take k) aF[k]=FF at *;generalize jc aF[k] (sizeOf' lib aF[k])=BD at *;generalize lastOf lib aF[k]=LU at *;generalize sizeOf' lib aF[k]=SZ at *;generalize hCU:jR lib aF[k]=CU at *;clear hCU hnm hc hB;generalize kC:aF[k]=rk at *;clear kC;obtain ⟨un,up,uu,ua⟩:=rk;simp only at *;have dI:=ah (KA.out _ (.cells #[.int .i64 un,.string up,.int .i64 uu,.int .i64 ua] 67) bA.out);have CP1:=ah (CP.out up _ (KC.out _ dI.out).1);generalize cZ lib up.data.toList=PO at *;go_wp2_with fail;refine CP1.out.mono ?_;rintro e w5 ⟨pv,rfl,hpv,hb5⟩;obtain ⟨qn,qz,qo,ql,qc,rfl⟩:=IJ hpv;have hz5:=hb5.size;simp only [World.size_alloc] at hz5;have hbu5:wo.heap.size<w5.heap.size:=by omega
   have nU:=ah (KM.out _ _ dI.out hb5)
   have KU5:=ah (show ∀W,Below w5.heap.size w5 W→(W.cell? ⟨wo.heap.size,0,none⟩=some (.int .i64 un)∧W.cell? ⟨wo.heap.size,1,none⟩=some (.string up)∧W.cell? ⟨wo.heap.size,2,none⟩=some (.int .i64 uu)∧W.cell? ⟨wo.heap.size,3,none⟩=some (.int .i64 ua)) from fun W hW=>by
    have h:=hb5.trans (hW.mono (by simp;omega));exact ⟨(h.cell (p:=⟨wo.heap.size,0,none⟩) (by simp)).trans (by simp [go_sem]),(h.cell (p:=⟨wo.heap.size,1,none⟩) (by simp)).trans (by simp [go_sem]),(h.cell (p:=⟨wo.heap.size,2,none⟩) (by simp)).trans (by simp [go_sem]),(h.cell (p:=⟨wo.heap.size,3,none⟩) (by simp)).trans (by simp [go_sem])⟩)
   obtain ⟨f0,f1,f2,f3⟩:=KU5.out _ (Below.refl _ _);have hNI:PO.isNone=!PO.isSome:=by cases PO<;>rfl
   rw [hNI] at eZ;generalize PO.isSome=IS at *;clear hb5 CP1 hpv hNI d0 d1 d2 d3 dI bA p0 p1 hz;obtain ⟨hB5,hz,p0,p1⟩:=KC.out _ nU.out;have vS:=ah (fun (h0:0<k)=>HRW.out (k-1) (by omega) w5 hB5);have hb5:b<w5.heap.size:=by omega
   have tZ:=ah (KA.out _ (.cells #[.string qn,.int .i64 qz,.slice qo ql qc] 71) nU.out);clear hB5;rcases Bool.eq_false_or_eq_true (bW un 1 9999) with k0 | k0;rotate_left
   ·skip;have HE:FF=1:=by rw [eZ.out];simp [k0]
    have HV:=ah (show RES=1 by rw [gW.out,iB.out (by rw [HE];decide),HE]);clear HE;go_wp2_with (first | (go_at_call 45;((with_reducible refine (aR _ _ _ _).mono ?_);rintro e w' ⟨rfl,rfl⟩)) | fail);go_ret;exact ⟨by rw [HV.out]<;>rfl,(KC.out _ tZ.out).1⟩
   have pO:=ah (show FF=if LW then 7 else if !IS then 5 else if BD then 1 else if (aF.take k).any CU then 12 else 0 by rw [eZ.out];simp [k0]);go_upto_region 12 with (first | (go_at_call 45;((with_reducible refine (aR _ _ _ _).mono ?_);rintro e w' ⟨rfl,rfl⟩)) | fail);clear eZ k0;have eZ:=pO;clear pO;go_cut [41] (fun s41 wx=>s41=.bool LW∧Below wx.heap.size (w5.alloc (.cells #[.string qn,.int .i64 qz,.slice qo ql qc] 71)) wx∧wx.heap.size=w5.heap.size+1)
   case first=>
    by_cases h0:k=0
    ·subst h0;have HV:=ah (qK.out rfl);clear vS yX qK;go_quiet (fail)
     go_wp2_with fail;all_goals go_meet
     all_goals exact ⟨by rw [HV.out]<;>rfl,fC (Below.refl _ _) _,by simp⟩
    ·obtain ⟨j,rfl⟩:∃j,k=j+1:=⟨k-1,by omega⟩;have rD:=ah (yX.out (by omega));obtain ⟨d4,_,_,_⟩:=vS.out (by omega);clear vS yX qK;simp only [Nat.add_sub_cancel] at d4;have hlow:(aF[j+1-1]'(by omega))=aF[j]:=by simp
     rw [hlow] at rD;clear hlow;generalize aF[j]=rj at *;obtain ⟨jn,jp,ju,ja⟩:=rj;simp only at d4;have hji:((j+1:Nat):Int)-1=(j:Int):=by omega
     by_cases hle:un≤jn
     ·skip;have HV:=ah (show LW=true by rw [rD.out];simpa using hle);clear rD;go_quiet (fail)
      go_wp2_with fail;all_goals go_meet
      all_goals exact ⟨by rw [HV.out]<;>rfl,fC (Below.refl _ _) _,by simp⟩
     ·skip;have HV:=ah (show LW=false by rw [rD.out];simpa using hle);clear rD;have Qw:decide (un≤jn)=false:=by simpa using hle
      go_quiet (fail)
      go_wp2_with fail;all_goals go_meet
      all_goals exact ⟨by rw [HV.out]<;>rfl,fC (Below.refl _ _) _,by simp⟩
   case rest=>
    obtain ⟨rfl,hb3,hz3⟩:=hcut;have kr:=ah (KM.out _ wc tZ.out (hb3.mono (by simp;omega)));obtain ⟨e0,e1,e2,e3⟩:=KU5.out wc (((Below.refl _ _).alloc (Nat.le_refl _) _).trans (hb3.mono (by omega)));clear hb3 yX qK vS tZ nU KU5 p0 p1 f0 f1 f2 f3;obtain ⟨hBc,_,p0,p1⟩:=KC.out wc kr.out;have hbc:b<wc.heap.size:=by omega
    have HBc:=ah hBc;clear hBc;cases LW;rotate_left
    ·skip;have HE:FF=7:=by rw [eZ.out];rfl
     have HV:=ah (show RES=7 by rw [gW.out,iB.out (by rw [HE];decide),HE]);clear HE;go_wp2_with fail;go_ret;exact ⟨by rw [HV.out]<;>rfl,(KC.out _ kr.out).1⟩
    have pO:=ah (show FF=if !IS then 5 else if BD then 1 else if (aF.take k).any CU then 12 else 0 by rw [eZ.out];rfl);clear eZ;have eZ:=pO;clear pO;cases IS
    ·skip;have HE:FF=5:=by rw [eZ.out];rfl
     have HV:=ah (show RES=5 by rw [gW.out,iB.out (by rw [HE];decide),HE]);clear HE;go_wp2_with fail;go_ret;exact ⟨by rw [HV.out]<;>rfl,(KC.out _ kr.out).1⟩
    have hsx:=oo.out rfl;have HLU:=ah (fun W hb h1=>HLU.out W hb h1 hsx);have pO:=ah (show FF=if BD then 1 else if (aF.take k).any CU then 12 else 0 by rw [eZ.out];rfl);clear eZ oo;have eZ:=pO;clear pO;go_upto_region 16 with fail;go_cut [59] (fun s59 wx=>s59=.bool BD∧Below wc.heap.size wc wx∧(BD=false→1≤ua∧ua≤512))
    case first=>
     rcases Bool.eq_false_or_eq_true (bW uu 1 64) with j0 | j0;rotate_left
     ·have HV:=ah (show BD=true by rw [qQ.out];simp [j0]);go_wp2_with (first | (go_at_call 45;((with_reducible refine (aR _ _ _ _).mono ?_);rintro e w' ⟨rfl,rfl⟩)) | fail);all_goals go_meet
      all_goals exact ⟨by rw [HV.out]<;>rfl,Below.refl _ _,fun h=>by rw [HV.out] at h;cases h⟩
     rcases Bool.eq_false_or_eq_true (bW ua 1 512) with j1 | j1;rotate_left
     ·have HV:=ah (show BD=true by rw [qQ.out];simp [j0,j1]);go_wp2_with (first | (go_at_call 45;((with_reducible refine (aR _ _ _ _).mono ?_);rintro e w' ⟨rfl,rfl⟩)) | fail);all_goals go_meet
      all_goals exact ⟨by rw [HV.out]<;>rfl,Below.refl _ _,fun h=>by rw [HV.out] at h;cases h⟩
     have HLV:=ah (HLU.out wc HBc.out (ji j1));by_cases j2:512<LU
     ·have HV:=ah (show BD=true by rw [qQ.out];simp [j2]);have j3:decide (512<LU)=true:=by simpa using j2
      go_wp2_with (first | (first | (go_at_call 45;((with_reducible refine (aR _ _ _ _).mono ?_);rintro e w' ⟨rfl,rfl⟩)) | fail) | (go_at_call 58;refine HLV.out.mono ?_;rintro e w' ⟨rfl,hbl⟩));all_goals go_meet
      all_goals exact ⟨by rw [HV.out]<;>rfl,by assumption,fun h=>by rw [HV.out] at h;cases h⟩
     ·have HV:=ah (show BD=false by rw [qQ.out];simp [j0,j1];omega);have j3:decide (512<LU)=false:=by simpa using j2
      have HJ1:=ah (ji j1);go_wp2_with (first | (first | (go_at_call 45;((with_reducible refine (aR _ _ _ _).mono ?_);rintro e w' ⟨rfl,rfl⟩)) | fail) | (go_at_call 58;refine HLV.out.mono ?_;rintro e w' ⟨rfl,hbl⟩));all_goals go_meet
      all_goals exact ⟨by rw [HV.out]<;>rfl,by assumption,fun _=>HJ1.out⟩
    case rest=>
     obtain ⟨rfl,hbd,hua⟩:=hcut;obtain ⟨wd,rfl⟩:∃x,x=wc:=⟨_,rfl⟩;have R6:=ah (KM.out _ wd kr.out hbd);have hzd:=hbd.size;clear HBc p0 p1;obtain ⟨hBd,hzz,p0,p1⟩:=KC.out wd R6.out;have HBd:=ah hBd
     have KU:=ah (show ∀W,Below wd.heap.size wd W→(W.cell? ⟨wo.heap.size,0,none⟩=some (.int .i64 un)∧W.cell? ⟨wo.heap.size,1,none⟩=some (.string up)∧W.cell? ⟨wo.heap.size,2,none⟩=some (.int .i64 uu)∧W.cell? ⟨wo.heap.size,3,none⟩=some (.int .i64 ua)) from fun W hW=>by
      have h:=hbd.trans (hW.mono (by omega));exact ⟨(h.cell (p:=⟨wo.heap.size,0,none⟩) (by simp;omega)).trans e0,(h.cell (p:=⟨wo.heap.size,1,none⟩) (by simp;omega)).trans e1,(h.cell (p:=⟨wo.heap.size,2,none⟩) (by simp;omega)).trans e2,(h.cell (p:=⟨wo.heap.size,3,none⟩) (by simp;omega)).trans e3⟩)
     have hwd:wo.heap.size<wd.heap.size:=by omega
     clear hBd hbd e0 e1 e2 e3;cases BD;rotate_left
     ·skip;have HE:FF=1:=by rw [eZ.out];rfl
      have HV:=ah (show RES=1 by rw [gW.out,iB.out (by rw [HE];decide),HE]);clear HE;go_wp2_with fail;go_ret;exact ⟨by rw [HV.out]<;>rfl,(KC.out _ R6.out).1⟩
     have hua:=hua rfl;have HLU:=ah (fun W hb=>HLU.out W hb hua);have pO:=ah (show FF=if (aF.take k).any CU then 12 else 0 by rw [eZ.out];rfl);clear eZ qQ;have eZ:=pO;clear pO;have hi1:(0:Int)≤(k:Int):=by omega
     have hi2:(k:Int)≤(dR:Int):=by omega
     have hi3:k≤dR:=by omega
     go_wp2_with fail;clear p0 p1;go_loopw [81] (fun i wx=>∃j:Nat,j≤k∧i=.int .i64 j∧Hid ((aF.take j).any CU=false)∧Hid (Below wd.heap.size wd wx)) (fun i _=>k-(intOf i).toNat)
     case atStart=>exact ⟨0,Nat.zero_le _,rfl,ah (by simp),ah (Below.refl _ _)⟩
     case round=>
      obtain ⟨j,hj,rfl,xU,vW⟩:=hrel;have hzi:=vW.out.size;obtain ⟨e0,e1,e2,e3⟩:=KU.out wr vW.out;have EI:=ah (KM.out _ _ R6.out vW.out);obtain ⟨hBn,_,p0,p1⟩:=KC.out _ EI.out;have hbi:b<wr.heap.size:=by omega
      have hor:wo.heap.size<wr.heap.size:=by omega
      have hor2:w.heap.size<wr.heap.size:=by omega
      by_cases hjlt:j<k
      ·have hjl:j<aF.length:=by omega
       obtain ⟨d0,d1,d2,d3⟩:=HRW.out j hjl wr hBn;have HS:=HUS.out _ _ (Ht.out j hjl hjlt);have rD:=ah (fun W (hb:Below w.heap.size w W)=>BM lo (some ⟨b,off,none⟩) dU aF.length dR lib aF[j] W (HPL.out W hb) (by omega) (by omega) (by omega) (by omega));have HCD:=ah (HCJ.out aF[j]);have vU:=ah (Gy CU aF j hjl);have qO:=ah (Rz CU aF k j hjl hjlt);generalize CU aF[j]=CJ at *;generalize lastOf lib aF[j]=LX at *;generalize sizeOf' lib aF[j]=SX at *;clear hBn HS;generalize kC:aF[j]=rk at *;clear kC;obtain ⟨xn,xp,xu,xa⟩:=rk;simp only at *;have dI:=ah (vW.out.alloc hzi (.cells #[.int .i64 xn,.string xp,.int .i64 xu,.int .i64 xa] 67));go_upto_region 21 with fail
       have KQ:=ah (show ∀W,Below (wr.alloc (.cells #[.int .i64 xn,.string xp,.int .i64 xu,.int .i64 xa] 67)).heap.size (wr.alloc (.cells #[.int .i64 xn,.string xp,.int .i64 xu,.int .i64 xa] 67)) W→(Below w.heap.size w W∧Below wd.heap.size wd W∧W.cell? ⟨w.heap.size,0,none⟩=some (.slice lo lib.length dU)∧W.cell? ⟨w.heap.size,1,none⟩=some (.slice (some ⟨b,off,none⟩) aF.length dR)∧W.cell? ⟨wo.heap.size,0,none⟩=some (.int .i64 un)∧W.cell? ⟨wo.heap.size,1,none⟩=some (.string up)∧W.cell? ⟨wo.heap.size,2,none⟩=some (.int .i64 uu)∧W.cell? ⟨wo.heap.size,3,none⟩=some (.int .i64 ua)∧W.cell? ⟨wr.heap.size,0,none⟩=some (.int .i64 xn)∧W.cell? ⟨wr.heap.size,1,none⟩=some (.string xp)∧W.cell? ⟨wr.heap.size,2,none⟩=some (.int .i64 xu)∧W.cell? ⟨wr.heap.size,3,none⟩=some (.int .i64 xa)) from fun W hW=>by
        have h0:Below wr.heap.size wr W:=((Below.refl _ _).alloc (Nat.le_refl _) _).trans (hW.mono (by simp));obtain ⟨hn1,_,hn2,xB⟩:=KC.out _ (KM.out _ _ EI.out h0);obtain ⟨g0,g1,g2,g3⟩:=KU.out _ (vW.out.trans (h0.mono hzi));exact ⟨hn1,vW.out.trans (h0.mono hzi),hn2,xB,g0,g1,g2,g3,(hW.cell (p:=⟨wr.heap.size,0,none⟩) (by simp)).trans (by simp [go_sem]),(hW.cell (p:=⟨wr.heap.size,1,none⟩) (by simp)).trans (by simp [go_sem]),(hW.cell (p:=⟨wr.heap.size,2,none⟩) (by simp)).trans (by simp [go_sem]),(hW.cell (p:=⟨wr.heap.size,3,none⟩) (by simp)).trans (by simp [go_sem])⟩)
       clear e0 e1 e2 e3 p0 p1 d0 d1 d2 d3 dI;generalize hW0:wr.alloc (.cells #[.int .i64 xn,.string xp,.int .i64 xu,.int .i64 xa] 67)=W0 at *;clear hW0;have KM0:=ah (show ∀W W1,Below W0.heap.size W0 W→Below W.heap.size W W1→Below W0.heap.size W0 W1 from fun W W1 h1 h2=>h1.trans (h2.mono h1.size));have KB:=ah (show ∀W,Below W0.heap.size W0 W→Below w.heap.size w W from fun W hW=>(KQ.out W hW).1);have hw0:Below W0.heap.size W0 W0:=Below.refl _ _;obtain ⟨_,_,p0,p1,e0,e1,e2,e3,x0,x1,x2,x3⟩:=KQ.out _ hw0;go_cut [105] (fun s105 wx=>s105=.bool CJ∧Below W0.heap.size W0 wx)
       case first=>
        by_cases c1:xu=uu;rotate_left
        ·have c2:(xu==uu)=false:=by simpa using c1
         have HV:=ah (show CJ=false by rw [HCD.out];simp [c1]);go_quiet (fail)
         go_wp2_with fail;all_goals go_meet
         all_goals exact ⟨by rw [HV.out]<;>rfl,fC (by assumption) _⟩
        have c2:(xu==uu)=true:=by simpa using c1
        by_cases c3:xa≤LU;rotate_left
        ·have c4:decide (xa≤LU)=false:=by simpa using c3
         have HV:=ah (show CJ=false by rw [HCD.out];simp [c3]);clear c1 c3;refine wp_region_held_drew (S:=(fun W=>W.cell? ⟨w.heap.size,0,none⟩=some (.slice lo lib.length dU)∧W.cell? ⟨w.heap.size,1,none⟩=some (.slice (some ⟨b,off,none⟩) aF.length dR)∧W.cell? ⟨wo.heap.size,0,none⟩=some (.int .i64 un)∧W.cell? ⟨wo.heap.size,1,none⟩=some (.string up)∧W.cell? ⟨wo.heap.size,2,none⟩=some (.int .i64 uu)∧W.cell? ⟨wo.heap.size,3,none⟩=some (.int .i64 ua)∧W.cell? ⟨wr.heap.size,0,none⟩=some (.int .i64 xn)∧W.cell? ⟨wr.heap.size,1,none⟩=some (.string xp)∧W.cell? ⟨wr.heap.size,2,none⟩=some (.int .i64 xu)∧W.cell? ⟨wr.heap.size,3,none⟩=some (.int .i64 xa))) (by kernel_rfl) (by first | exact (KQ.out _ (by assumption)).2.2 | exact (KQ.out _ (Below.drew (by assumption))).2.2) (fun hHeld=>?_);refine wpAnyH_take (i:=0) (oi:=_) (v:=?_) rfl (by kernel_rfl) (by kernel_rfl) (by kernel_rfl) (fun _ _ _ h=>h) (Or.inl ⟨by rfl,?_⟩) (by assumption) ?_;rotate_left
         ·(intro w hSw;(try dsimp only at hSw);go_simp<;>with_reducible rfl)
         try simp only [Act.put,List.getElem_toArray,List.getElem_cons_zero,List.getElem_cons_succ,List.setIfInBounds_toArray,List.set_cons_zero,List.set_cons_succ]
         refine wpAnyH_take (i:=1) (oi:=_) (v:=?_) rfl (by kernel_rfl) (by kernel_rfl) (by kernel_rfl) (fun _ _ _ h=>h) (Or.inl ⟨by rfl,?_⟩) (by assumption) ?_;rotate_left
         ·(intro w hSw;(try dsimp only at hSw);go_simp<;>with_reducible rfl)
         try simp only [Act.put,List.getElem_toArray,List.getElem_cons_zero,List.getElem_cons_succ,List.setIfInBounds_toArray,List.set_cons_zero,List.set_cons_succ]
         refine wpAnyH_take (i:=2) (oi:=_) (v:=?_) rfl (by kernel_rfl) (by kernel_rfl) (by kernel_rfl) (fun _ _ _ h=>h) (Or.inl ⟨by rfl,?_⟩) (by assumption) ?_;rotate_left
         ·(intro w hSw;(try dsimp only at hSw);go_simp<;>with_reducible rfl)
         try simp only [Act.put,List.getElem_toArray,List.getElem_cons_zero,List.getElem_cons_succ,List.setIfInBounds_toArray,List.set_cons_zero,List.set_cons_succ]
         refine wpAnyH_take (i:=3) (oi:=_) (v:=?_) rfl (by kernel_rfl) (by kernel_rfl) (by kernel_rfl) (fun _ _ _ h=>h) (Or.inl ⟨by rfl,?_⟩) (by assumption) ?_;rotate_left
         ·(intro w hSw;(try dsimp only at hSw);go_simp<;>with_reducible rfl)
         try simp only [Act.put,List.getElem_toArray,List.getElem_cons_zero,List.getElem_cons_succ,List.setIfInBounds_toArray,List.set_cons_zero,List.set_cons_succ]
         refine wpAnyH_take (i:=4) (oi:=_) (v:=?_) rfl (by kernel_rfl) (by kernel_rfl) (by kernel_rfl) (fun _ _ _ h=>h) (Or.inl ⟨by rfl,?_⟩) (by assumption) ?_;rotate_left
         ·(intro w hSw;(try dsimp only at hSw);go_simp<;>with_reducible rfl)
         try simp only [Act.put,List.getElem_toArray,List.getElem_cons_zero,List.getElem_cons_succ,List.setIfInBounds_toArray,List.set_cons_zero,List.set_cons_succ]
         refine wpAnyH_take (i:=5) (oi:=_) (v:=?_) rfl (by kernel_rfl) (by kernel_rfl) (by kernel_rfl) (fun _ _ _ h=>h) (Or.inl ⟨by rfl,?_⟩) (by assumption) ?_;rotate_left
         ·(intro w hSw;(try dsimp only at hSw);go_simp<;>with_reducible rfl)
         try simp only [Act.put,List.getElem_toArray,List.getElem_cons_zero,List.getElem_cons_succ,List.setIfInBounds_toArray,List.set_cons_zero,List.set_cons_succ]
         refine wpAnyH_take (i:=6) (oi:=_) (v:=?_) rfl (by kernel_rfl) (by kernel_rfl) (by kernel_rfl) (fun _ _ _ h=>h) (Or.inl ⟨by rfl,?_⟩) (by assumption) ?_;rotate_left
         ·(intro w hSw;(try dsimp only at hSw);go_simp<;>with_reducible rfl)
         try simp only [Act.put,List.getElem_toArray,List.getElem_cons_zero,List.getElem_cons_succ,List.setIfInBounds_toArray,List.set_cons_zero,List.set_cons_succ]
         refine wpAnyH_take (i:=7) (oi:=_) (v:=?_) rfl (by kernel_rfl) (by kernel_rfl) (by kernel_rfl) (fun _ _ _ h=>h) (Or.inl ⟨by rfl,?_⟩) (by assumption) ?_;rotate_left
         ·(intro w hSw;(try dsimp only at hSw);go_simp<;>with_reducible rfl)
         try simp only [Act.put,List.getElem_toArray,List.getElem_cons_zero,List.getElem_cons_succ,List.setIfInBounds_toArray,List.set_cons_zero,List.set_cons_succ]
         refine wpAnyH_take (i:=8) (oi:=_) (v:=?_) rfl (by kernel_rfl) (by kernel_rfl) (by kernel_rfl) (fun _ _ _ h=>h) (Or.inl ⟨by rfl,?_⟩) (by assumption) ?_;rotate_left
         ·(intro w hSw;(try dsimp only at hSw);go_simp<;>with_reducible rfl)
         try simp only [Act.put,List.getElem_toArray,List.getElem_cons_zero,List.getElem_cons_succ,List.setIfInBounds_toArray,List.set_cons_zero,List.set_cons_succ]
         refine wpAnyH_take (i:=9) (oi:=_) (v:=?_) rfl (by kernel_rfl) (by kernel_rfl) (by kernel_rfl) (fun _ _ _ h=>h) (Or.inl ⟨by rfl,?_⟩) (by assumption) ?_;rotate_left
         ·(intro w hSw;(try dsimp only at hSw);go_simp<;>with_reducible rfl)
         try simp only [Act.put,List.getElem_toArray,List.getElem_cons_zero,List.getElem_cons_succ,List.setIfInBounds_toArray,List.set_cons_zero,List.set_cons_succ]
         refine wpAnyH_ready (rs:=[10]) (by kernel_rfl) (by simp) (AllReadyH.cons rfl (fun K hK=>?_) AllReadyH.nil);go_simp;(first | (go_at_call 58;(with_reducible refine (HLU.out _ (by first | exact KB.out _ (by assumption) | exact KB.out _ (Below.drew (by assumption)))).mono ?_);rintro e WC ⟨rfl,hbC⟩;have MV:=KM0.out _ _ (by first | assumption | exact Below.drew (by assumption)) hbC;clear hbC) | (go_at_call 58;(with_reducible refine (rD.out _ (by first | exact KB.out _ (by assumption) | exact KB.out _ (Below.drew (by assumption)))).mono ?_);rintro e WC ⟨rfl,hbC⟩;have MV:=KM0.out _ _ (by first | assumption | exact Below.drew (by assumption)) hbC;clear hbC) | fail)
         (try go_wp2_with fail)
         refine hK.out _ _ (by first | exact (KQ.out _ (by assumption)).2.2 | exact (KQ.out _ (Below.drew (by assumption))).2.2) (fun hHeld=>?_);clear hK K;try simp only [Act.put,List.getElem_toArray,List.getElem_cons_zero,List.getElem_cons_succ,List.setIfInBounds_toArray,List.set_cons_zero,List.set_cons_succ]
         refine wpAnyH_take (i:=11) (oi:=_) (v:=?_) rfl (by kernel_rfl) (by kernel_rfl) (by kernel_rfl) (fun _ _ _ h=>h) (Or.inl ⟨by rfl,?_⟩) (by assumption) ?_;rotate_left
         ·(intro w hSw;(try dsimp only at hSw);go_simp<;>with_reducible rfl)
         try simp only [Act.put,List.getElem_toArray,List.getElem_cons_zero,List.getElem_cons_succ,List.setIfInBounds_toArray,List.set_cons_zero,List.set_cons_succ]
         refine wpAnyH_take (i:=12) (oi:=_) (v:=?_) rfl (by kernel_rfl) (by kernel_rfl) (by kernel_rfl) (fun _ _ _ h=>h) (Or.inl ⟨by rfl,?_⟩) (by assumption) ?_;rotate_left
         ·(intro w hSw;(try dsimp only at hSw);go_simp<;>with_reducible rfl)
         try simp only [Act.put,List.getElem_toArray,List.getElem_cons_zero,List.getElem_cons_succ,List.setIfInBounds_toArray,List.set_cons_zero,List.set_cons_succ]
         refine wpAnyH_take (i:=13) (oi:=_) (v:=?_) rfl (by kernel_rfl) (by kernel_rfl) (by kernel_rfl) (fun _ _ _ h=>h) (Or.inl ⟨by rfl,?_⟩) (by assumption) ?_;rotate_left
         ·(intro w hSw;(try dsimp only at hSw);go_simp<;>with_reducible rfl)
         try simp only [Act.put,List.getElem_toArray,List.getElem_cons_zero,List.getElem_cons_succ,List.setIfInBounds_toArray,List.set_cons_zero,List.set_cons_succ]
         refine wpAnyH_take (i:=14) (oi:=_) (v:=undef) rfl (by kernel_rfl) (by kernel_rfl) (by kernel_rfl) (fun _ _ _ h=>h) (Or.inr ⟨by rfl,rfl⟩) (by assumption) ?_;try simp only [Act.put,List.getElem_toArray,List.getElem_cons_zero,List.getElem_cons_succ,List.setIfInBounds_toArray,List.set_cons_zero,List.set_cons_succ]
         refine wpAnyH_take (i:=15) (oi:=_) (v:=undef) rfl (by kernel_rfl) (by kernel_rfl) (by kernel_rfl) (fun _ _ _ h=>h) (Or.inr ⟨by rfl,rfl⟩) (by assumption) ?_;try simp only [Act.put,List.getElem_toArray,List.getElem_cons_zero,List.getElem_cons_succ,List.setIfInBounds_toArray,List.set_cons_zero,List.set_cons_succ]
         refine wpAnyH_take (i:=16) (oi:=_) (v:=undef) rfl (by kernel_rfl) (by kernel_rfl) (by kernel_rfl) (fun _ _ _ h=>h) (Or.inr ⟨by rfl,rfl⟩) (by assumption) ?_;try simp only [Act.put,List.getElem_toArray,List.getElem_cons_zero,List.getElem_cons_succ,List.setIfInBounds_toArray,List.set_cons_zero,List.set_cons_succ]
         refine wpAnyH_take (i:=17) (oi:=_) (v:=undef) rfl (by kernel_rfl) (by kernel_rfl) (by kernel_rfl) (fun _ _ _ h=>h) (Or.inr ⟨by rfl,rfl⟩) (by assumption) ?_;try simp only [Act.put,List.getElem_toArray,List.getElem_cons_zero,List.getElem_cons_succ,List.setIfInBounds_toArray,List.set_cons_zero,List.set_cons_succ]
         refine wpAnyH_take (i:=18) (oi:=_) (v:=undef) rfl (by kernel_rfl) (by kernel_rfl) (by kernel_rfl) (fun _ _ _ h=>h) (Or.inr ⟨by rfl,rfl⟩) (by assumption) ?_;try simp only [Act.put,List.getElem_toArray,List.getElem_cons_zero,List.getElem_cons_succ,List.setIfInBounds_toArray,List.set_cons_zero,List.set_cons_succ]
         refine wpAnyH_take (i:=19) (oi:=_) (v:=undef) rfl (by kernel_rfl) (by kernel_rfl) (by kernel_rfl) (fun _ _ _ h=>h) (Or.inr ⟨by rfl,rfl⟩) (by assumption) ?_;try simp only [Act.put,List.getElem_toArray,List.getElem_cons_zero,List.getElem_cons_succ,List.setIfInBounds_toArray,List.set_cons_zero,List.set_cons_succ]
         refine wpAnyH_take (i:=20) (oi:=_) (v:=?_) rfl (by kernel_rfl) (by kernel_rfl) (by kernel_rfl) (fun _ _ _ h=>h) (Or.inl ⟨by rfl,?_⟩) (by assumption) ?_;rotate_left
         ·(intro w hSw;(try dsimp only at hSw);go_simp<;>with_reducible rfl)
         try simp only [Act.put,List.getElem_toArray,List.getElem_cons_zero,List.getElem_cons_succ,List.setIfInBounds_toArray,List.set_cons_zero,List.set_cons_succ]
         refine wpAnyH_done (by kernel_rfl) ?_ _;all_goals go_wp2_with fail
         all_goals go_meet
         all_goals exact ⟨by rw [HV.out]<;>rfl,by first | assumption | exact Below.drew (by assumption)⟩
        have c4:decide (xa≤LU)=true:=by simpa using c3
        have HV:=ah (show CJ=decide (ua≤LX) by rw [HCD.out];simp [c1,c3]);clear c1 c3
        go_region_held3 (fun W=>W.cell? ⟨w.heap.size,0,none⟩=some (.slice lo lib.length dU)∧W.cell? ⟨w.heap.size,1,none⟩=some (.slice (some ⟨b,off,none⟩) aF.length dR)∧W.cell? ⟨wo.heap.size,0,none⟩=some (.int .i64 un)∧W.cell? ⟨wo.heap.size,1,none⟩=some (.string up)∧W.cell? ⟨wo.heap.size,2,none⟩=some (.int .i64 uu)∧W.cell? ⟨wo.heap.size,3,none⟩=some (.int .i64 ua)∧W.cell? ⟨wr.heap.size,0,none⟩=some (.int .i64 xn)∧W.cell? ⟨wr.heap.size,1,none⟩=some (.string xp)∧W.cell? ⟨wr.heap.size,2,none⟩=some (.int .i64 xu)∧W.cell? ⟨wr.heap.size,3,none⟩=some (.int .i64 xa))
         (first | exact (KQ.out _ (by assumption)).2.2 | exact (KQ.out _ (Below.drew (by assumption))).2.2)
         (first | (go_at_call 58;(with_reducible refine (HLU.out _ (by first | exact KB.out _ (by assumption) | exact KB.out _ (Below.drew (by assumption)))).mono ?_);rintro e WC ⟨rfl,hbC⟩;have MV:=KM0.out _ _ (by first | assumption | exact Below.drew (by assumption)) hbC;clear hbC) | (go_at_call 58;(with_reducible refine (rD.out _ (by first | exact KB.out _ (by assumption) | exact KB.out _ (Below.drew (by assumption)))).mono ?_);rintro e WC ⟨rfl,hbC⟩;have MV:=KM0.out _ _ (by first | assumption | exact Below.drew (by assumption)) hbC;clear hbC) | fail)
        all_goals go_wp2_with fail
        all_goals go_meet
        all_goals exact ⟨by rw [HV.out]<;>rfl,by first | assumption | exact Below.drew (by assumption)⟩
       case rest=>
        obtain ⟨rfl,hbj⟩:=hcut;have HBJ:=ah (KQ.out _ hbj).2.1;have HBK:=ah (KQ.out _ hbj).1;clear hbj KQ KB KM0 hw0 p0 p1 e0 e1 e2 e3 x0 x1 x2 x3;cases CJ;rotate_left
        ·skip;have HE:FF=12:=by rw [eZ.out];rw [qO.out rfl];rfl
         have HV:=ah (show RES=12 by rw [gW.out,iB.out (by rw [HE];decide),HE]);clear HE;go_wp2_with fail;go_ret;exact ⟨by rw [HV.out]<;>rfl,HBK.out⟩
        have HV:=ah (show (aF.take (j+1)).any CU=false by rw [vU.out,xU.out];rfl);go_wp2_with fail;go_roundw
        case rel=>exact ⟨j+1,by omega,by go_num,HV,HBJ⟩
        case measure=>simp [intOf];omega
      ·have hjk:j=k:=by omega
       subst hjk;have HE:FF=0:=by rw [eZ.out,xU.out];rfl
       have HV:=ah (show RES=bQ (jB lib) aF (j+1) by rw [gW.out,sN.out HE]);have JV:=ah (Eu.out HE);clear HE xU hBn Eu Ht;go_wp2_with fail;go_roundw
       case rel=>exact ⟨j+1,by omega,by go_num,HV,JV,EI⟩
       case measure=>simp [intOf];omega
  ·have HV:=ah (show RES=0 by rw [gW.out,gB (jB lib) aF k (by omega)]);have HBO:=ah hB;have hkk:k=aF.length:=by omega
   clear hB;subst hkk;go_wp2_with fail;go_ret;exact ⟨by rw [HV.out]<;>rfl,HBO.out⟩
end Go.Proofs.YtopmdeefcjdadaaGreat
