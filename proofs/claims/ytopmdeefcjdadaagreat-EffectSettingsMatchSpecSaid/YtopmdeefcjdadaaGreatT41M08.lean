import Derived.Test.YtopmdeefcjdadaaGreatT41M00
import Derived.Test.YtopmdeefcjdadaaGreatT41M06
import Derived.Test.YtopmdeefcjdadaaGreatT41M07
set_option linter.unusedVariables false
set_option linter.unusedSimpArgs false
set_option maxRecDepth 100000
set_option maxHeartbeats 32000000
namespace Go.Proofs.YtopmdeefcjdadaaGreat
open Go.RowKit
theorem Av (l:List ji) (k:Nat) (h:k<l.length):gW (l.take (k+1))=gW (l.take k)++gZ l[k]:=by
 unfold gW;rw [List.take_succ_eq_append_getElem h,List.flatMap_append];simp
theorem Ac (p:Prf) (pv:Value) (w:World) (h:jy w.heap.size w pv p.iL) (hf:rC p) :
  Calls Tryz.prog 61 #[.agg #[.string p.name,.int .i64 p.size,pv]] w fun e w'=>e=.returned (.int .i64 (iw p))∧Below w.heap.size w w':=by
 have HG:=ah (jy.get h);have HCR:=ah (fun (v:Value) (l:List sS) W (hb:Below w.heap.size w W) (hr:mZ w.heap.size w v l) (hfr:∀r∈l,zF r)=>Ct v l W ((hr.below hb).more hb.size) hfr);obtain ⟨lv,hlv,hcs,_⟩:=h;obtain ⟨ao,cap,rfl,_⟩:=aW.shape hcs;have hm:=aW.len hcs;rw [show lv.length=p.iL.length by rw [←hlv];simp] at *;clear hcs hlv;obtain ⟨pn,ps,l⟩:=p;obtain ⟨hps,hpn,hfl⟩:=hf;have HF:=ah hfl;simp only at *;have ug:=ah (show iw ⟨pn,ps,l⟩=if !dX pn.data.toList then 5 else if !bU ps 1 512 then 1 else if l.length=0 then 8 else if 40<l.length then 2 else bP (jZ ps) l 0 from rfl);generalize iw ⟨pn,ps,l⟩=RES at *;clear hfl hm
 have KC:=ah (show ∀W,Below (w.heap.size+1) (w.alloc (.cells #[.string pn,.int .i64 ps,.slice ao l.length cap] 71)) W→(Below w.heap.size w W∧w.heap.size<W.heap.size∧W.cell? ⟨w.heap.size,0,none⟩=some (.string pn)∧W.cell? ⟨w.heap.size,1,none⟩=some (.int .i64 ps)∧W.cell? ⟨w.heap.size,2,none⟩=some (.slice ao l.length cap)) from fun W hW=>by
  have hz:=hW.size;simp at hz;exact ⟨((Below.refl _ _).alloc (Nat.le_refl _) _).trans (hW.mono (by omega)),by omega,(hW.cell (p:=⟨w.heap.size,0,none⟩) (by simp)).trans (by simp [go_sem]),(hW.cell (p:=⟨w.heap.size,1,none⟩) (by simp)).trans (by simp [go_sem]),(hW.cell (p:=⟨w.heap.size,2,none⟩) (by simp)).trans (by simp [go_sem])⟩)
 have KA:=ah (show ∀W o,Below (w.heap.size+1) (w.alloc (.cells #[.string pn,.int .i64 ps,.slice ao l.length cap] 71)) W→Below (w.heap.size+1) (w.alloc (.cells #[.string pn,.int .i64 ps,.slice ao l.length cap] 71)) (W.alloc o) from fun W o h=>h.alloc (by have:=h.size;simp at this;omega) o);have HB0:=ah (KC.out _ (Below.refl _ _)).1;go_enter Tryz.func61,Tryz.ntmps61;rcases Bool.eq_false_or_eq_true (dX pn.data.toList) with k0 | k0;rotate_left
 ·have HV:=ah (show RES=5 by rw [ug.out,k0];rfl);go_wp2_with (first | (go_at_call 93;((with_reducible refine (dM _ _).mono ?_);rintro e w' ⟨rfl,rfl⟩)) | (go_at_call 31;((with_reducible refine (aU _ _ _ _).mono ?_);rintro e w' ⟨rfl,rfl⟩)) | (go_at_call 92;((with_reducible refine (dL _ _ (by first | exact pJ.out | exact hpn)).mono ?_);rintro e w' ⟨rfl,rfl⟩)) | fail);go_ret;exact ⟨by rw [HV.out]<;>rfl,HB0.out⟩
 rcases Bool.eq_false_or_eq_true (bU ps 1 512) with k1 | k1;rotate_left
 ·have HV:=ah (show RES=1 by rw [ug.out,k0,k1];rfl);go_wp2_with (first | (go_at_call 93;((with_reducible refine (dM _ _).mono ?_);rintro e w' ⟨rfl,rfl⟩)) | (go_at_call 31;((with_reducible refine (aU _ _ _ _).mono ?_);rintro e w' ⟨rfl,rfl⟩)) | (go_at_call 92;((with_reducible refine (dL _ _ (by first | exact pJ.out | exact hpn)).mono ?_);rintro e w' ⟨rfl,rfl⟩)) | fail);go_ret;exact ⟨by rw [HV.out]<;>rfl,HB0.out⟩
 by_cases k2:l.length=0
 ·have HV:=ah (show RES=8 by rw [ug.out,k0,k1,if_pos k2];rfl);have k3:((l.length:Int)==0)=true:=by simpa using k2
  clear k2;go_wp2_with (first | (go_at_call 93;((with_reducible refine (dM _ _).mono ?_);rintro e w' ⟨rfl,rfl⟩)) | (go_at_call 31;((with_reducible refine (aU _ _ _ _).mono ?_);rintro e w' ⟨rfl,rfl⟩)) | (go_at_call 92;((with_reducible refine (dL _ _ (by first | exact pJ.out | exact hpn)).mono ?_);rintro e w' ⟨rfl,rfl⟩)) | fail);go_ret;exact ⟨by rw [HV.out]<;>rfl,HB0.out⟩
 have k3:((l.length:Int)==0)=false:=by
  rw [beq_eq_false_iff_ne];omega
 by_cases k4:40<l.length
 ·have HV:=ah (show RES=2 by rw [ug.out,k0,k1,if_neg k2,if_pos k4];rfl);go_wp2_with (first | (go_at_call 93;((with_reducible refine (dM _ _).mono ?_);rintro e w' ⟨rfl,rfl⟩)) | (go_at_call 31;((with_reducible refine (aU _ _ _ _).mono ?_);rintro e w' ⟨rfl,rfl⟩)) | (go_at_call 92;((with_reducible refine (dL _ _ (by first | exact pJ.out | exact hpn)).mono ?_);rintro e w' ⟨rfl,rfl⟩)) | fail);go_ret;exact ⟨by rw [HV.out]<;>rfl,HB0.out⟩
 have HC:=ah (show RES=bP (jZ ps) l 0 by rw [ug.out,k0,k1,if_neg k2,if_neg k4];rfl);have h31:l.length≤40:=by omega
 clear ug k4;have hmm:=@run_makeMap Tryz.prog;go_wp2_with (first | (go_at_call 93;((with_reducible refine (dM _ _).mono ?_);rintro e w' ⟨rfl,rfl⟩)) | (go_at_call 31;((with_reducible refine (aU _ _ _ _).mono ?_);rintro e w' ⟨rfl,rfl⟩)) | (go_at_call 92;((with_reducible refine (dL _ _ (by first | exact pJ.out | exact hpn)).mono ?_);rintro e w' ⟨rfl,rfl⟩)) | fail);clear hmm k0 k1 k3;go_loopw [33] (fun i wx=>∃k:Nat,k≤l.length∧i=.int .i64 k∧Hid (RES=bP (jZ ps) l k)∧Hid (Below (w.heap.size+1) (w.alloc (.cells #[.string pn,.int .i64 ps,.slice ao l.length cap] 71)) wx)∧Hid (dz wx Tryz.prog 9 4 (w.heap.size+1) k ((l.take k).map (fun y=>Lit.string y.nm)))∧Hid (dz wx Tryz.prog 3 4 (w.heap.size+1+1) (2*k) ((gW (l.take k)).map (Lit.int .i64)))∧w.heap.size+1+1<wx.heap.size) (fun i _=>l.length-(intOf i).toNat)
 case atStart=>exact ⟨0,Nat.zero_le _,rfl,HC,ah (((Below.refl _ _).alloc (by simp) _).alloc (by simp) _),ah (by simpa using (mD (w.alloc (.cells #[.string pn,.int .i64 ps,.slice ao l.length cap] 71)) _ _ _).kept (World.grownBy_alloc _ _ none) (by simp)),ah (by simpa [gW] using mD ((w.alloc (.cells #[.string pn,.int .i64 ps,.slice ao l.length cap] 71)).alloc (.map #[] 0)) _ _ _),by simp⟩
 case round=>
  obtain ⟨k,hk,rfl,iO,bG,zJ,HSI,F5⟩:=hrel;obtain ⟨hB,hz,p0,p1,p2⟩:=KC.out wr bG.out;by_cases hlt:k<l.length
  ·obtain ⟨b,off,cap',hsl,hb,_,hc⟩:=HG.out (by omega);injection hsl with hs1 hs2 hs3;subst hs1 hs3;obtain ⟨rv,sK,hcc⟩:=hc k hlt;obtain ⟨d0,d1,d2,d3,d4,d5,d6⟩:=hcc wr hB;have rJ:=ah hB;have hbr:b<wr.heap.size:=by have:=hB.size;omega
   obtain ⟨g0,g1,g2,g3,hns,g5⟩:=HF.out _ (List.getElem_mem hlt);have pJ:=ah hns;have HRC:=ah (fun W hW=>HCR.out rv l[k].oN W hW sK g5);have rG:=ah (eZ (jZ ps) l k hlt);have iG:=ah (fP (jZ ps) l k hlt);have eF:=ah (show jZ ps (l.take k) l[k]=if !dX l[k].nm then 5 else if l[k].nm∈(l.take k).map ji.nm then 6 else if !bU l[k].MN 1 4 then 4 else if lN ps l[k] then 1 else if j6 (l.take k) l[k] then 12 else gD l[k].oN from rfl);have HKN:=ah (Cm hns);have HK1:=ah (l7 g1);have HK2:=ah (l7 g2);have Dm:=ah (yR ji.nm (l.take k) l[k].nm);have HI1:=ah (EG (gW (l.take k)) l[k].sl);have HI2:=ah (EG (gW (l.take k)) l[k].fine);have sU:=ah (vo ji.nm l k hlt);have HUS:=ah (show (gW (l.take (k+1))).map (Lit.int .i64)=(gW (l.take k)).map (Lit.int .i64)++(gZ l[k]).map (Lit.int .i64) by rw [Av l k hlt,List.map_append]);have xQ:=ah (show gZ l[k]=if 0<l[k].fine then [l[k].sl,l[k].fine] else [l[k].sl] from rfl);have pO:=ah (show lN ps l[k]=(!bU l[k].sl 1 ps||!bU l[k].fine 0 ps||!bU l[k].dflt 0 65535) from rfl);have JE:=ah (show j6 (l.take k) l[k]=(decide (l[k].sl=l[k].fine)||decide (l[k].sl∈gW (l.take k))||(decide (0<l[k].fine)&&decide (l[k].fine∈gW (l.take k)))) from rfl);generalize j6 (l.take k) l[k]=CL at *;generalize lN ps l[k]=BD at *;generalize jZ ps (l.take k) l[k]=FF at *;have hnm:l[k].nm=l[k].name.data.toList:=rfl;rw [hnm] at eF Dm sU;obtain ⟨ro,bK,rfl,_⟩:=aW.shape sK;clear hnm hc hcc g0 g1 g2 g3 g5 sK hB hns rJ HCR;generalize (l.take k).map ji.nm=SN at *;generalize (l.take k).map (fun y=>Lit.string y.nm)=S at *;generalize gW (l.take k)=US at *;generalize kM:l[k]=rk at *;clear kM;obtain ⟨xn,xg,xs,xf,xd,xb,xr⟩:=rk;simp only at *;have dN:=ah (KA.out _ (.cells #[.string xn,.int .i64 xg,.int .i64 xs,.int .i64 xf,.int .i64 xd,.bool xb,.slice ro xr.length bK] 81) bG.out);have wM:=ah (zJ.out.kept (World.grownBy_alloc wr (.cells #[.string xn,.int .i64 xg,.int .i64 xs,.int .i64 xf,.int .i64 xd,.bool xb,.slice ro xr.length bK] 81) none) (by simp));have HSY:=ah (HSI.out.kept (World.grownBy_alloc wr (.cells #[.string xn,.int .i64 xg,.int .i64 xs,.int .i64 xf,.int .i64 xd,.bool xb,.slice ro xr.length bK] 81) none) (by simp));clear zJ HSI;rcases Bool.eq_false_or_eq_true (dX xn.data.toList) with k0 | k0;rotate_left
   ·skip;have HE:FF=5:=by rw [eF.out];simp [k0]
    have HV:=ah (show RES=5 by rw [iO.out,iG.out (by rw [HE];decide),HE]);clear HE;go_wp2_with (first | (go_at_call 93;((with_reducible refine (dM _ _).mono ?_);rintro e w' ⟨rfl,rfl⟩)) | (go_at_call 31;((with_reducible refine (aU _ _ _ _).mono ?_);rintro e w' ⟨rfl,rfl⟩)) | (go_at_call 92;((with_reducible refine (dL _ _ (by first | exact pJ.out | exact hpn)).mono ?_);rintro e w' ⟨rfl,rfl⟩)) | fail);go_ret;exact ⟨by rw [HV.out]<;>rfl,(KC.out _ dN.out).1⟩
   by_cases hin:xn.data.toList∈SN
   ·have hq1:=wM.out.xK sP (t:=112) Tryz.underlying112 Tryz.underlying4 (nK _) HKN.out (Dm.out.2 hin);have HE:FF=6:=by rw [eF.out];simp [k0,hin]
    have HV:=ah (show RES=6 by rw [iO.out,iG.out (by rw [HE];decide),HE]);clear HE;go_wp2_with (first | (go_at_call 93;((with_reducible refine (dM _ _).mono ?_);rintro e w' ⟨rfl,rfl⟩)) | (go_at_call 31;((with_reducible refine (aU _ _ _ _).mono ?_);rintro e w' ⟨rfl,rfl⟩)) | (go_at_call 92;((with_reducible refine (dL _ _ (by first | exact pJ.out | exact hpn)).mono ?_);rintro e w' ⟨rfl,rfl⟩)) | fail);go_ret;exact ⟨by rw [HV.out]<;>rfl,(KC.out _ dN.out).1⟩
   have hq1:=wM.out.uF sP (t:=112) Tryz.underlying112 Tryz.underlying4 (nK _) HKN.out (fun h=>hin (Dm.out.1 h));rcases Bool.eq_false_or_eq_true (bU xg 1 4) with k1 | k1;rotate_left
   ·skip;have HE:FF=4:=by rw [eF.out];simp [k0,hin,k1]
    have HV:=ah (show RES=4 by rw [iO.out,iG.out (by rw [HE];decide),HE]);clear HE;go_wp2_with (first | (go_at_call 93;((with_reducible refine (dM _ _).mono ?_);rintro e w' ⟨rfl,rfl⟩)) | (go_at_call 31;((with_reducible refine (aU _ _ _ _).mono ?_);rintro e w' ⟨rfl,rfl⟩)) | (go_at_call 92;((with_reducible refine (dL _ _ (by first | exact pJ.out | exact hpn)).mono ?_);rintro e w' ⟨rfl,rfl⟩)) | fail);go_ret;exact ⟨by rw [HV.out]<;>rfl,(KC.out _ dN.out).1⟩
   have qy:=ah (show FF=if BD then 1 else if CL then 12 else gD xr by rw [eF.out];simp [k0,hin,k1]);go_upto_region 19 with (first | (go_at_call 93;((with_reducible refine (dM _ _).mono ?_);rintro e w' ⟨rfl,rfl⟩)) | (go_at_call 31;((with_reducible refine (aU _ _ _ _).mono ?_);rintro e w' ⟨rfl,rfl⟩)) | (go_at_call 92;((with_reducible refine (dL _ _ (by first | exact pJ.out | exact hpn)).mono ?_);rintro e w' ⟨rfl,rfl⟩)) | fail);clear eF k0 k1 hin hq1;have eF:=qy;clear qy;go_cut [52] (fun s52 wx=>s52=.bool BD∧wx=wr.alloc (.cells #[.string xn,.int .i64 xg,.int .i64 xs,.int .i64 xf,.int .i64 xd,.bool xb,.slice ro xr.length bK] 81))
   case first=>
    have HQ:=pO;rcases Bool.eq_false_or_eq_true (bU xs 1 ps) with j0 | j0;rotate_left
    ·skip;have HV:=ah (show BD=true by rw [HQ.out];simp [j0]);go_wp2_with (first | (go_at_call 93;((with_reducible refine (dM _ _).mono ?_);rintro e w' ⟨rfl,rfl⟩)) | (go_at_call 31;((with_reducible refine (aU _ _ _ _).mono ?_);rintro e w' ⟨rfl,rfl⟩)) | (go_at_call 92;((with_reducible refine (dL _ _ (by first | exact pJ.out | exact hpn)).mono ?_);rintro e w' ⟨rfl,rfl⟩)) | fail);all_goals go_meet
     all_goals exact ⟨by rw [HV.out]<;>rfl,rfl⟩
    rcases Bool.eq_false_or_eq_true (bU xf 0 ps) with j1 | j1;rotate_left
    ·skip;have HV:=ah (show BD=true by rw [HQ.out];simp [j0,j1]);go_wp2_with (first | (go_at_call 93;((with_reducible refine (dM _ _).mono ?_);rintro e w' ⟨rfl,rfl⟩)) | (go_at_call 31;((with_reducible refine (aU _ _ _ _).mono ?_);rintro e w' ⟨rfl,rfl⟩)) | (go_at_call 92;((with_reducible refine (dL _ _ (by first | exact pJ.out | exact hpn)).mono ?_);rintro e w' ⟨rfl,rfl⟩)) | fail);all_goals go_meet
     all_goals exact ⟨by rw [HV.out]<;>rfl,rfl⟩
    rcases Bool.eq_false_or_eq_true (bU xd 0 65535) with j2 | j2;rotate_left
    ·skip;have HV:=ah (show BD=true by rw [HQ.out];simp [j0,j1,j2]);go_wp2_with (first | (go_at_call 93;((with_reducible refine (dM _ _).mono ?_);rintro e w' ⟨rfl,rfl⟩)) | (go_at_call 31;((with_reducible refine (aU _ _ _ _).mono ?_);rintro e w' ⟨rfl,rfl⟩)) | (go_at_call 92;((with_reducible refine (dL _ _ (by first | exact pJ.out | exact hpn)).mono ?_);rintro e w' ⟨rfl,rfl⟩)) | fail);all_goals go_meet
     all_goals exact ⟨by rw [HV.out]<;>rfl,rfl⟩
    ·skip;have HV:=ah (show BD=false by rw [HQ.out];simp [j0,j1,j2]);go_wp2_with (first | (go_at_call 93;((with_reducible refine (dM _ _).mono ?_);rintro e w' ⟨rfl,rfl⟩)) | (go_at_call 31;((with_reducible refine (aU _ _ _ _).mono ?_);rintro e w' ⟨rfl,rfl⟩)) | (go_at_call 92;((with_reducible refine (dL _ _ (by first | exact pJ.out | exact hpn)).mono ?_);rintro e w' ⟨rfl,rfl⟩)) | fail);all_goals go_meet
     all_goals exact ⟨by rw [HV.out]<;>rfl,rfl⟩
   case rest=>
    obtain ⟨rfl,rfl⟩:=hcut;cases BD;rotate_left
    ·skip;have HE:FF=1:=by rw [eF.out];rfl
     have HV:=ah (show RES=1 by rw [iO.out,iG.out (by rw [HE];decide),HE]);clear HE;go_wp2_with fail;go_ret;exact ⟨by rw [HV.out]<;>rfl,(KC.out _ dN.out).1⟩
    go_upto_region 21 with fail;go_cut [73] (fun s73 wx=>s73=.bool CL∧wx=wr.alloc (.cells #[.string xn,.int .i64 xg,.int .i64 xs,.int .i64 xf,.int .i64 xd,.bool xb,.slice ro xr.length bK] 81))
    case first=>
     have HQ:=JE;by_cases j0:xs=xf
     ·skip;have HV:=ah (show CL=true by rw [HQ.out];simp [j0]);have j3:(xs==xf)=true:=by simpa using j0
      clear j0;go_wp2_with fail;all_goals go_meet
      all_goals exact ⟨by rw [HV.out]<;>rfl,rfl⟩
     have j3:(xs==xf)=false:=by simpa using j0
     by_cases hs1:xs∈US
     ·have hq1:=HSY.out.xK nE (t:=139) Tryz.underlying139 Tryz.underlying4 (nK _) HK1.out (HI1.out.2 hs1);have HV:=ah (show CL=true by rw [HQ.out];simp [j0,hs1]);go_wp2_with fail;all_goals go_meet
      all_goals exact ⟨by rw [HV.out]<;>rfl,rfl⟩
     have hq1:=HSY.out.uF nE (t:=139) Tryz.underlying139 Tryz.underlying4 (nK _) HK1.out (fun h=>hs1 (HI1.out.1 h));by_cases j1:0<xf;rotate_left
     ·skip;have HV:=ah (show CL=false by rw [HQ.out];simp [j0,hs1,j1]);go_wp2_with fail;all_goals go_meet
      all_goals exact ⟨by rw [HV.out]<;>rfl,rfl⟩
     by_cases hs2:xf∈US
     ·have hq2:=HSY.out.xK nE (t:=139) Tryz.underlying139 Tryz.underlying4 (nK _) HK2.out (HI2.out.2 hs2);have HV:=ah (show CL=true by rw [HQ.out];simp [j0,hs1,j1,hs2]);go_wp2_with fail;all_goals go_meet
      all_goals exact ⟨by rw [HV.out]<;>rfl,rfl⟩
     ·have hq2:=HSY.out.uF nE (t:=139) Tryz.underlying139 Tryz.underlying4 (nK _) HK2.out (fun h=>hs2 (HI2.out.1 h));have HV:=ah (show CL=false by rw [HQ.out];simp [j0,hs1,j1,hs2]);go_wp2_with fail;all_goals go_meet
      all_goals exact ⟨by rw [HV.out]<;>rfl,rfl⟩
    case rest=>
     obtain ⟨rfl,rfl⟩:=hcut;cases CL;rotate_left
     ·skip;have HE:FF=12:=by rw [eF.out];rfl
      have HV:=ah (show RES=12 by rw [iO.out,iG.out (by rw [HE];decide),HE]);clear HE;go_wp2_with fail;go_ret;exact ⟨by rw [HV.out]<;>rfl,(KC.out _ dN.out).1⟩
     have qy:=ah (show FF=gD xr by rw [eF.out];rfl);clear eF pO JE Dm HI1 HI2;have BA:=ah (HRC.out _ (KC.out _ dN.out).1);generalize gD xr=E at *;go_wp2_with fail;refine BA.out.mono ?_;rintro e wc ⟨rfl,hbc⟩;simp only [World.size_alloc] at hbc;have hzc:=hbc.size;simp only [World.size_alloc] at hzc;have ng:=ah (dN.out.trans (hbc.mono (by omega)));have HSN:=ah (wM.out.below hbc (by omega));have HSL:=ah (HSY.out.below hbc (by omega));have e0:wc.cell? ⟨wr.heap.size,0,none⟩=some (.string xn):=(hbc.cell (p:=⟨wr.heap.size,0,none⟩) (by simp)).trans (by simp [go_sem]);have e2:wc.cell? ⟨wr.heap.size,2,none⟩=some (.int .i64 xs):=(hbc.cell (p:=⟨wr.heap.size,2,none⟩) (by simp)).trans (by simp [go_sem]);have e3:wc.cell? ⟨wr.heap.size,3,none⟩=some (.int .i64 xf):=(hbc.cell (p:=⟨wr.heap.size,3,none⟩) (by simp)).trans (by simp [go_sem]);clear hbc BA HRC d0 d1 d2 d3 d4 d5 d6 wM HSY dN bG p0 p1 p2;by_cases hE:E=0;rotate_left
     ·have HV:=ah (show RES=E by rw [iO.out,iG.out (by rw [qy.out];exact hE),qy.out]);go_wp2_with fail;go_ret;exact ⟨by rw [HV.out]<;>rfl,(KC.out _ ng.out).1⟩
     have HV:=ah (show RES=bP (jZ ps) l (k+1) by rw [iO.out,rG.out (by rw [qy.out];exact hE)]);subst hE;go_upto_region 26 with fail;obtain ⟨wa,ra1,sa,ga⟩:=HSN.out.drew.update sP (t:=112) Tryz.underlying112 Tryz.underlying4 (by unfold maxLen;omega) HKN.out;obtain ⟨wb,rb1,sb,gb⟩:=HSL.out.drew.update nE (t:=139) Tryz.underlying139 Tryz.underlying4 (by unfold maxLen;omega) HK1.out;have sa':=HSL.out.drew.kept ga (by simp);have sb':=HSN.out.drew.kept gb (by simp);obtain ⟨wab,ra2,sab,gab⟩:=sa'.update nE (t:=139) Tryz.underlying139 Tryz.underlying4 (by unfold maxLen;omega) HK1.out;obtain ⟨wba,rb2,sba,gba⟩:=sb'.update sP (t:=112) Tryz.underlying112 Tryz.underlying4 (by unfold maxLen;omega) HKN.out;have za:=ga.size;have zb:=gb.size;have zab:=gab.size;have zba:=gba.size;simp only [World.size_drew] at za zb;have e0d:wc.drew.cell? ⟨wr.heap.size,0,none⟩=some (.string xn):=e0;have e2d:wc.drew.cell? ⟨wr.heap.size,2,none⟩=some (.int .i64 xs):=e2;have ea0:=(dR (off:=0) (b:=wr.heap.size) ga (by simp;omega) (by omega)).trans e0d;have ea2:=(dR (off:=2) (b:=wr.heap.size) ga (by simp;omega) (by omega)).trans e2d;have eb0:=(dR (off:=0) (b:=wr.heap.size) gb (by simp;omega) (by omega)).trans e0d;have eb2:=(dR (off:=2) (b:=wr.heap.size) gb (by simp;omega) (by omega)).trans e2d;have eab0:=(dR (off:=0) (b:=wr.heap.size) gab (by omega) (by omega)).trans ea0;have eab2:=(dR (off:=2) (b:=wr.heap.size) gab (by omega) (by omega)).trans ea2;have eba0:=(dR (off:=0) (b:=wr.heap.size) gba (by omega) (by omega)).trans eb0;have eba2:=(dR (off:=2) (b:=wr.heap.size) gba (by omega) (by omega)).trans eb2;have HAB:=ah (show (dz wab Tryz.prog 9 4 (w.heap.size+1) (k+1) (S++[Lit.string xn.data.toList])∧dz wab Tryz.prog 3 4 (w.heap.size+1+1) (2*k+1) (US.map (Lit.int .i64)++[Lit.int .i64 xs])∧Below (w.heap.size+1) (w.alloc (.cells #[.string pn,.int .i64 ps,.slice (some ⟨b,off,none⟩) l.length cap] 71)) wab∧wc.heap.size≤wab.heap.size∧wab.cell? ⟨wr.heap.size,3,none⟩=some (.int .i64 xf)) from ⟨sa.kept gab (by simp),sab,(ng.out.drew.grown ga (by simp;omega) (fun j hj=>by cases hj;omega)).grown gab (by omega) (fun j hj=>by cases hj;omega),by omega,(dR gab (by omega) (by omega)).trans ((dR ga (by simp;omega) (by omega)).trans e3)⟩);have MQ:=ah (show (dz wba Tryz.prog 9 4 (w.heap.size+1) (k+1) (S++[Lit.string xn.data.toList])∧dz wba Tryz.prog 3 4 (w.heap.size+1+1) (2*k+1) (US.map (Lit.int .i64)++[Lit.int .i64 xs])∧Below (w.heap.size+1) (w.alloc (.cells #[.string pn,.int .i64 ps,.slice (some ⟨b,off,none⟩) l.length cap] 71)) wba∧wc.heap.size≤wba.heap.size∧wba.cell? ⟨wr.heap.size,3,none⟩=some (.int .i64 xf)) from ⟨sba,sb.kept gba (by simp),(ng.out.drew.grown gb (by simp;omega) (fun j hj=>by cases hj;omega)).grown gba (by omega) (fun j hj=>by cases hj;omega),by omega,(dR gba (by omega) (by omega)).trans ((dR gb (by simp;omega) (by omega)).trans e3)⟩);clear sa sb sa' sb' sab sba ga gb gab gba za zb zab zba;go_cut [] (fun wx=>dz wx Tryz.prog 9 4 (w.heap.size+1) (k+1) (S++[Lit.string xn.data.toList])∧dz wx Tryz.prog 3 4 (w.heap.size+1+1) (2*k+1) (US.map (Lit.int .i64)++[Lit.int .i64 xs])∧Below (w.heap.size+1) (w.alloc (.cells #[.string pn,.int .i64 ps,.slice (some ⟨b,off,none⟩) l.length cap] 71)) wx∧wc.heap.size≤wx.heap.size∧wx.cell? ⟨wr.heap.size,3,none⟩=some (.int .i64 xf))
     case first=>
      go_region_held3 (fun W=>W.cell? ⟨wr.heap.size,0,none⟩=some (.string xn)∧W.cell? ⟨wr.heap.size,2,none⟩=some (.int .i64 xs))
       (constructor<;>assumption)
       (fail)
      all_goals go_wp2_with fail
      all_goals go_meet
      all_goals first | exact HAB.out | exact MQ.out
     case rest=>
      obtain ⟨hs1,hs2,hb6,hz6,c3⟩:=hcut;have HS1:=ah hs1;have HS2:=ah hs2;have wP:=ah hb6;have Bg:w.heap.size+1+1<wc.heap.size:=by omega
      clear HAB MQ hs1 hs2 hb6 ra1 ra2 rb1 rb2 e0 e2 e3 e0d e2d ea0 ea2 eb0 eb2 eab0 eab2 eba0 eba2;by_cases j1:0<xf
      ·obtain ⟨wz,rz,sz,gz⟩:=HS2.out.update nE (t:=139) Tryz.underlying139 Tryz.underlying4 (by unfold maxLen;omega) HK2.out;have HS3:=ah (HS1.out.kept gz (by simp));have MR:=ah (wP.out.grown gz (by omega) (fun j hj=>by cases hj;omega))
       have HZ:=ah (show dz wz Tryz.prog 3 4 (w.heap.size+1+1) (2*(k+1)) ((gW (l.take (k+1))).map (Lit.int .i64)) by
        rw [HUS.out,xQ.out,if_pos j1];have:=sz.mono (m:=2*(k+1)) (by omega);simpa using this)
       have hz7:=gz.size;clear gz sz HS2;go_wp2_with fail;go_roundw
       case rel=>exact ⟨k+1,by omega,by first | rfl | go_num,HV,MR,ah (by rw [sU.out];exact HS3.out),HZ,by omega⟩
       case measure=>simp [intOf];omega
      ·have HZ:=ah (show dz wc Tryz.prog 3 4 (w.heap.size+1+1) (2*(k+1)) ((gW (l.take (k+1))).map (Lit.int .i64)) by
        rw [HUS.out,xQ.out,if_neg j1];have:=HS2.out.mono (m:=2*(k+1)) (by omega);simpa using this)
       clear HS2;go_wp2_with fail;go_roundw
       case rel=>exact ⟨k+1,by omega,by first | rfl | go_num,HV,wP,ah (by rw [sU.out];exact HS1.out),HZ,by omega⟩
       case measure=>simp [intOf];omega
  ·have HV:=ah (show RES=0 by rw [iO.out,fO (jZ ps) l k (by omega)]);have rJ:=ah hB;clear hB;have hkk:k=l.length:=by omega
   subst hkk;go_wp2_with fail;go_ret;exact ⟨by rw [HV.out]<;>rfl,rJ.out⟩
end Go.Proofs.YtopmdeefcjdadaaGreat
