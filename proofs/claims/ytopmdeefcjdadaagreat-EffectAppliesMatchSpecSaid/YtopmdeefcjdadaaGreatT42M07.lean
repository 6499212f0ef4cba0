import Derived.Test.YtopmdeefcjdadaaGreatT42M00
import Derived.Test.YtopmdeefcjdadaaGreatT42M05
import Derived.Test.YtopmdeefcjdadaaGreatT42M06
set_option linter.unusedVariables false
set_option linter.unusedSimpArgs false
set_option maxRecDepth 100000
set_option maxHeartbeats 32000000
namespace Go.Proofs.YtopmdeefcjdadaaGreat
open Go.RowKit
theorem BF (l:List jy) (k:Nat) (h:k<l.length):iy (l.take (k+1))=iy (l.take k)++iE l[k]:=by
 unfold iy;rw [List.take_succ_eq_append_getElem h,List.flatMap_append];simp
theorem Bg (p:Prf) (pv:Value) (w:World) (h:jI w.heap.size w pv p.iY) (hf:sK p) :
  Calls Tryz.prog 61 #[.agg #[.string p.name,.int .i64 p.size,pv]] w fun e w'=>e=.returned (.int .i64 (iI p))∧Below w.heap.size w w':=by
 have HG:=ah (jI.get h);have HCR:=ah (fun (v:Value) (l:List uj) W (hb:Below w.heap.size w W) (hr:nL w.heap.size w v l) (hfr:∀r∈l,Au r)=>Ec v l W ((hr.below hb).more hb.size) hfr);obtain ⟨lv,hlv,hcs,_⟩:=h;obtain ⟨ao,cap,rfl,_⟩:=aW.shape hcs;have hm:=aW.len hcs;rw [show lv.length=p.iY.length by rw [←hlv];simp] at *;clear hcs hlv;obtain ⟨pn,ps,l⟩:=p;obtain ⟨hps,hpn,hfl⟩:=hf;have HF:=ah hfl;simp only at *;have uV:=ah (show iI ⟨pn,ps,l⟩=if !eU pn.data.toList then 5 else if !bW ps 1 512 then 1 else if l.length=0 then 8 else if 40<l.length then 2 else bQ (kG ps) l 0 from rfl);generalize iI ⟨pn,ps,l⟩=RES at *;clear hfl hm
 have KC:=ah (show ∀W,Below (w.heap.size+1) (w.alloc (.cells #[.string pn,.int .i64 ps,.slice ao l.length cap] 71)) W→(Below w.heap.size w W∧w.heap.size<W.heap.size∧W.cell? ⟨w.heap.size,0,none⟩=some (.string pn)∧W.cell? ⟨w.heap.size,1,none⟩=some (.int .i64 ps)∧W.cell? ⟨w.heap.size,2,none⟩=some (.slice ao l.length cap)) from fun W hW=>by
  have hz:=hW.size;simp at hz;exact ⟨((Below.refl _ _).alloc (Nat.le_refl _) _).trans (hW.mono (by omega)),by omega,(hW.cell (p:=⟨w.heap.size,0,none⟩) (by simp)).trans (by simp [go_sem]),(hW.cell (p:=⟨w.heap.size,1,none⟩) (by simp)).trans (by simp [go_sem]),(hW.cell (p:=⟨w.heap.size,2,none⟩) (by simp)).trans (by simp [go_sem])⟩)
 have KA:=ah (show ∀W o,Below (w.heap.size+1) (w.alloc (.cells #[.string pn,.int .i64 ps,.slice ao l.length cap] 71)) W→Below (w.heap.size+1) (w.alloc (.cells #[.string pn,.int .i64 ps,.slice ao l.length cap] 71)) (W.alloc o) from fun W o h=>h.alloc (by have:=h.size;simp at this;omega) o);have HB0:=ah (KC.out _ (Below.refl _ _)).1;go_enter Tryz.func61,Tryz.ntmps61;rcases Bool.eq_false_or_eq_true (eU pn.data.toList) with k0 | k0;rotate_left
 ·have HV:=ah (show RES=5 by rw [uV.out,k0];rfl);go_wp2_with (first | (go_at_call 93;((with_reducible refine (dY _ _).mono ?_);rintro e w' ⟨rfl,rfl⟩)) | (go_at_call 31;((with_reducible refine (aV _ _ _ _).mono ?_);rintro e w' ⟨rfl,rfl⟩)) | (go_at_call 92;((with_reducible refine (dX _ _ (by first | exact qJ.out | exact hpn)).mono ?_);rintro e w' ⟨rfl,rfl⟩)) | fail);go_ret;exact ⟨by rw [HV.out]<;>rfl,HB0.out⟩
 rcases Bool.eq_false_or_eq_true (bW ps 1 512) with k1 | k1;rotate_left
 ·have HV:=ah (show RES=1 by rw [uV.out,k0,k1];rfl);go_wp2_with (first | (go_at_call 93;((with_reducible refine (dY _ _).mono ?_);rintro e w' ⟨rfl,rfl⟩)) | (go_at_call 31;((with_reducible refine (aV _ _ _ _).mono ?_);rintro e w' ⟨rfl,rfl⟩)) | (go_at_call 92;((with_reducible refine (dX _ _ (by first | exact qJ.out | exact hpn)).mono ?_);rintro e w' ⟨rfl,rfl⟩)) | fail);go_ret;exact ⟨by rw [HV.out]<;>rfl,HB0.out⟩
 by_cases k2:l.length=0
 ·have HV:=ah (show RES=8 by rw [uV.out,k0,k1,if_pos k2];rfl);have k3:((l.length:Int)==0)=true:=by simpa using k2
  clear k2;go_wp2_with (first | (go_at_call 93;((with_reducible refine (dY _ _).mono ?_);rintro e w' ⟨rfl,rfl⟩)) | (go_at_call 31;((with_reducible refine (aV _ _ _ _).mono ?_);rintro e w' ⟨rfl,rfl⟩)) | (go_at_call 92;((with_reducible refine (dX _ _ (by first | exact qJ.out | exact hpn)).mono ?_);rintro e w' ⟨rfl,rfl⟩)) | fail);go_ret;exact ⟨by rw [HV.out]<;>rfl,HB0.out⟩
 have k3:((l.length:Int)==0)=false:=by
  rw [beq_eq_false_iff_ne];omega
 by_cases k4:40<l.length
 ·have HV:=ah (show RES=2 by rw [uV.out,k0,k1,if_neg k2,if_pos k4];rfl);go_wp2_with (first | (go_at_call 93;((with_reducible refine (dY _ _).mono ?_);rintro e w' ⟨rfl,rfl⟩)) | (go_at_call 31;((with_reducible refine (aV _ _ _ _).mono ?_);rintro e w' ⟨rfl,rfl⟩)) | (go_at_call 92;((with_reducible refine (dX _ _ (by first | exact qJ.out | exact hpn)).mono ?_);rintro e w' ⟨rfl,rfl⟩)) | fail);go_ret;exact ⟨by rw [HV.out]<;>rfl,HB0.out⟩
 have HC:=ah (show RES=bQ (kG ps) l 0 by rw [uV.out,k0,k1,if_neg k2,if_neg k4];rfl);have h31:l.length≤40:=by omega
 clear uV k4;have hmm:=@run_makeMap Tryz.prog;go_wp2_with (first | (go_at_call 93;((with_reducible refine (dY _ _).mono ?_);rintro e w' ⟨rfl,rfl⟩)) | (go_at_call 31;((with_reducible refine (aV _ _ _ _).mono ?_);rintro e w' ⟨rfl,rfl⟩)) | (go_at_call 92;((with_reducible refine (dX _ _ (by first | exact qJ.out | exact hpn)).mono ?_);rintro e w' ⟨rfl,rfl⟩)) | fail);clear hmm k0 k1 k3;go_loopw [33] (fun i wx=>∃k:Nat,k≤l.length∧i=.int .i64 k∧Hid (RES=bQ (kG ps) l k)∧Hid (Below (w.heap.size+1) (w.alloc (.cells #[.string pn,.int .i64 ps,.slice ao l.length cap] 71)) wx)∧Hid (dH wx Tryz.prog 9 4 (w.heap.size+1) k ((l.take k).map (fun y=>Lit.string y.nm)))∧Hid (dH wx Tryz.prog 3 4 (w.heap.size+1+1) (2*k) ((iy (l.take k)).map (Lit.int .i64)))∧w.heap.size+1+1<wx.heap.size) (fun i _=>l.length-(intOf i).toNat)
 case atStart=>exact ⟨0,Nat.zero_le _,rfl,HC,ah (((Below.refl _ _).alloc (by simp) _).alloc (by simp) _),ah (by simpa using (mR (w.alloc (.cells #[.string pn,.int .i64 ps,.slice ao l.length cap] 71)) _ _ _).kept (World.grownBy_alloc _ _ none) (by simp)),ah (by simpa [iy] using mR ((w.alloc (.cells #[.string pn,.int .i64 ps,.slice ao l.length cap] 71)).alloc (.map #[] 0)) _ _ _),by simp⟩
 case round=>
  obtain ⟨k,hk,rfl,gW,bA,AB,HSI,Ho⟩:=hrel;obtain ⟨hB,hz,p0,p1,p2⟩:=KC.out wr bA.out;by_cases hlt:k<l.length
  ·obtain ⟨b,off,cap',hsl,hb,_,hc⟩:=HG.out (by omega);injection hsl with hs1 hs2 hs3;subst hs1 hs3;obtain ⟨rv,tX,hcc⟩:=hc k hlt;obtain ⟨d0,d1,d2,d3,d4,d5,d6⟩:=hcc wr hB;have nM:=ah hB;have hbr:b<wr.heap.size:=by have:=hB.size;omega
   obtain ⟨g0,g1,g2,g3,hns,g5⟩:=HF.out _ (List.getElem_mem hlt);have qJ:=ah hns;have HRC:=ah (fun W hW=>HCR.out rv l[k].pY W hW tX g5);have sN:=ah (fD (kG ps) l k hlt);have iB:=ah (gD (kG ps) l k hlt);have eZ:=ah (show kG ps (l.take k) l[k]=if !eU l[k].nm then 5 else if l[k].nm∈(l.take k).map jy.nm then 6 else if !bW l[k].Oh 1 4 then 4 else if mg ps l[k] then 1 else if kH (l.take k) l[k] then 12 else gM l[k].pY from rfl);have HKN:=ah (DY hns);have HK1:=ah (mJ g1);have HK2:=ah (mJ g2);have Ey:=ah (zY jy.nm (l.take k) l[k].nm);have HI1:=ah (F3 (iy (l.take k)) l[k].sl);have HI2:=ah (F3 (iy (l.take k)) l[k].fine);have um:=ah (wL jy.nm l k hlt);have HUS:=ah (show (iy (l.take (k+1))).map (Lit.int .i64)=(iy (l.take k)).map (Lit.int .i64)++(iE l[k]).map (Lit.int .i64) by rw [BF l k hlt,List.map_append]);have yT:=ah (show iE l[k]=if 0<l[k].fine then [l[k].sl,l[k].fine] else [l[k].sl] from rfl);have qQ:=ah (show mg ps l[k]=(!bW l[k].sl 1 ps||!bW l[k].fine 0 ps||!bW l[k].dflt 0 65535) from rfl);have K5:=ah (show kH (l.take k) l[k]=(decide (l[k].sl=l[k].fine)||decide (l[k].sl∈iy (l.take k))||(decide (0<l[k].fine)&&decide (l[k].fine∈iy (l.take k)))) from rfl);generalize kH (l.take k) l[k]=CL at *;generalize mg ps l[k]=BD at *;generalize kG ps (l.take k) l[k]=FF at *;have hnm:l[k].nm=l[k].name.data.toList:=rfl;rw [hnm] at eZ Ey um;obtain ⟨ro,bD,rfl,_⟩:=aW.shape tX;clear hnm hc hcc g0 g1 g2 g3 g5 tX hB hns nM HCR;generalize (l.take k).map jy.nm=SN at *;generalize (l.take k).map (fun y=>Lit.string y.nm)=S at *;generalize iy (l.take k)=US at *;generalize kC:l[k]=rk at *;clear kC;obtain ⟨xn,xg,xs,xf,xd,xb,xr⟩:=rk;simp only at *;have dI:=ah (KA.out _ (.cells #[.string xn,.int .i64 xg,.int .i64 xs,.int .i64 xf,.int .i64 xd,.bool xb,.slice ro xr.length bD] 81) bA.out);have oo:=ah (AB.out.kept (World.grownBy_alloc wr (.cells #[.string xn,.int .i64 xg,.int .i64 xs,.int .i64 xf,.int .i64 xd,.bool xb,.slice ro xr.length bD] 81) none) (by simp));have KT:=ah (HSI.out.kept (World.grownBy_alloc wr (.cells #[.string xn,.int .i64 xg,.int .i64 xs,.int .i64 xf,.int .i64 xd,.bool xb,.slice ro xr.length bD] 81) none) (by simp));clear AB HSI;rcases Bool.eq_false_or_eq_true (eU xn.data.toList) with k0 | k0;rotate_left
   ·skip;have HE:FF=5:=by rw [eZ.out];simp [k0]
    have HV:=ah (show RES=5 by rw [gW.out,iB.out (by rw [HE];decide),HE]);clear HE;go_wp2_with (first | (go_at_call 93;((with_reducible refine (dY _ _).mono ?_);rintro e w' ⟨rfl,rfl⟩)) | (go_at_call 31;((with_reducible refine (aV _ _ _ _).mono ?_);rintro e w' ⟨rfl,rfl⟩)) | (go_at_call 92;((with_reducible refine (dX _ _ (by first | exact qJ.out | exact hpn)).mono ?_);rintro e w' ⟨rfl,rfl⟩)) | fail);go_ret;exact ⟨by rw [HV.out]<;>rfl,(KC.out _ dI.out).1⟩
   by_cases hin:xn.data.toList∈SN
   ·have hq1:=oo.out.yO ug (t:=112) Tryz.underlying112 Tryz.underlying4 (oq _) HKN.out (Ey.out.2 hin);have HE:FF=6:=by rw [eZ.out];simp [k0,hin]
    have HV:=ah (show RES=6 by rw [gW.out,iB.out (by rw [HE];decide),HE]);clear HE;go_wp2_with (first | (go_at_call 93;((with_reducible refine (dY _ _).mono ?_);rintro e w' ⟨rfl,rfl⟩)) | (go_at_call 31;((with_reducible refine (aV _ _ _ _).mono ?_);rintro e w' ⟨rfl,rfl⟩)) | (go_at_call 92;((with_reducible refine (dX _ _ (by first | exact qJ.out | exact hpn)).mono ?_);rintro e w' ⟨rfl,rfl⟩)) | fail);go_ret;exact ⟨by rw [HV.out]<;>rfl,(KC.out _ dI.out).1⟩
   have hq1:=oo.out.vC ug (t:=112) Tryz.underlying112 Tryz.underlying4 (oq _) HKN.out (fun h=>hin (Ey.out.1 h));rcases Bool.eq_false_or_eq_true (bW xg 1 4) with k1 | k1;rotate_left
   ·skip;have HE:FF=4:=by rw [eZ.out];simp [k0,hin,k1]
    have HV:=ah (show RES=4 by rw [gW.out,iB.out (by rw [HE];decide),HE]);clear HE;go_wp2_with (first | (go_at_call 93;((with_reducible refine (dY _ _).mono ?_);rintro e w' ⟨rfl,rfl⟩)) | (go_at_call 31;((with_reducible refine (aV _ _ _ _).mono ?_);rintro e w' ⟨rfl,rfl⟩)) | (go_at_call 92;((with_reducible refine (dX _ _ (by first | exact qJ.out | exact hpn)).mono ?_);rintro e w' ⟨rfl,rfl⟩)) | fail);go_ret;exact ⟨by rw [HV.out]<;>rfl,(KC.out _ dI.out).1⟩
   have pO:=ah (show FF=if BD then 1 else if CL then 12 else gM xr by rw [eZ.out];simp [k0,hin,k1]);go_upto_region 19 with (first | (go_at_call 93;((with_reducible refine (dY _ _).mono ?_);rintro e w' ⟨rfl,rfl⟩)) | (go_at_call 31;((with_reducible refine (aV _ _ _ _).mono ?_);rintro e w' ⟨rfl,rfl⟩)) | (go_at_call 92;((with_reducible refine (dX _ _ (by first | exact qJ.out | exact hpn)).mono ?_);rintro e w' ⟨rfl,rfl⟩)) | fail);clear eZ k0 k1 hin hq1;have eZ:=pO;clear pO;go_cut [52] (fun s52 wx=>s52=.bool BD∧wx=wr.alloc (.cells #[.string xn,.int .i64 xg,.int .i64 xs,.int .i64 xf,.int .i64 xd,.bool xb,.slice ro xr.length bD] 81))
   case first=>
    have HQ:=qQ;rcases Bool.eq_false_or_eq_true (bW xs 1 ps) with j0 | j0;rotate_left
    ·skip;have HV:=ah (show BD=true by rw [HQ.out];simp [j0]);go_wp2_with (first | (go_at_call 93;((with_reducible refine (dY _ _).mono ?_);rintro e w' ⟨rfl,rfl⟩)) | (go_at_call 31;((with_reducible refine (aV _ _ _ _).mono ?_);rintro e w' ⟨rfl,rfl⟩)) | (go_at_call 92;((with_reducible refine (dX _ _ (by first | exact qJ.out | exact hpn)).mono ?_);rintro e w' ⟨rfl,rfl⟩)) | fail);all_goals go_meet
     all_goals exact ⟨by rw [HV.out]<;>rfl,rfl⟩
    rcases Bool.eq_false_or_eq_true (bW xf 0 ps) with j1 | j1;rotate_left
    ·skip;have HV:=ah (show BD=true by rw [HQ.out];simp [j0,j1]);go_wp2_with (first | (go_at_call 93;((with_reducible refine (dY _ _).mono ?_);rintro e w' ⟨rfl,rfl⟩)) | (go_at_call 31;((with_reducible refine (aV _ _ _ _).mono ?_);rintro e w' ⟨rfl,rfl⟩)) | (go_at_call 92;((with_reducible refine (dX _ _ (by first | exact qJ.out | exact hpn)).mono ?_);rintro e w' ⟨rfl,rfl⟩)) | fail);all_goals go_meet
     all_goals exact ⟨by rw [HV.out]<;>rfl,rfl⟩
    rcases Bool.eq_false_or_eq_true (bW xd 0 65535) with j2 | j2;rotate_left
    ·skip;have HV:=ah (show BD=true by rw [HQ.out];simp [j0,j1,j2]);go_wp2_with (first | (go_at_call 93;((with_reducible refine (dY _ _).mono ?_);rintro e w' ⟨rfl,rfl⟩)) | (go_at_call 31;((with_reducible refine (aV _ _ _ _).mono ?_);rintro e w' ⟨rfl,rfl⟩)) | (go_at_call 92;((with_reducible refine (dX _ _ (by first | exact qJ.out | exact hpn)).mono ?_);rintro e w' ⟨rfl,rfl⟩)) | fail);all_goals go_meet
     all_goals exact ⟨by rw [HV.out]<;>rfl,rfl⟩
    ·skip;have HV:=ah (show BD=false by rw [HQ.out];simp [j0,j1,j2]);go_wp2_with (first | (go_at_call 93;((with_reducible refine (dY _ _).mono ?_);rintro e w' ⟨rfl,rfl⟩)) | (go_at_call 31;((with_reducible refine (aV _ _ _ _).mono ?_);rintro e w' ⟨rfl,rfl⟩)) | (go_at_call 92;((with_reducible refine (dX _ _ (by first | exact qJ.out | exact hpn)).mono ?_);rintro e w' ⟨rfl,rfl⟩)) | fail);all_goals go_meet
     all_goals exact ⟨by rw [HV.out]<;>rfl,rfl⟩
   case rest=>
    obtain ⟨rfl,rfl⟩:=hcut;cases BD;rotate_left
    ·skip;have HE:FF=1:=by rw [eZ.out];rfl
     have HV:=ah (show RES=1 by rw [gW.out,iB.out (by rw [HE];decide),HE]);clear HE;go_wp2_with fail;go_ret;exact ⟨by rw [HV.out]<;>rfl,(KC.out _ dI.out).1⟩
    go_upto_region 21 with fail;go_cut [73] (fun s73 wx=>s73=.bool CL∧wx=wr.alloc (.cells #[.string xn,.int .i64 xg,.int .i64 xs,.int .i64 xf,.int .i64 xd,.bool xb,.slice ro xr.length bD] 81))
    case first=>
     have HQ:=K5;by_cases j0:xs=xf
     ·skip;have HV:=ah (show CL=true by rw [HQ.out];simp [j0]);have j3:(xs==xf)=true:=by simpa using j0
      clear j0;go_wp2_with fail;all_goals go_meet
      all_goals exact ⟨by rw [HV.out]<;>rfl,rfl⟩
     have j3:(xs==xf)=false:=by simpa using j0
     by_cases hs1:xs∈US
     ·have hq1:=KT.out.yO nY (t:=139) Tryz.underlying139 Tryz.underlying4 (oq _) HK1.out (HI1.out.2 hs1);have HV:=ah (show CL=true by rw [HQ.out];simp [j0,hs1]);go_wp2_with fail;all_goals go_meet
      all_goals exact ⟨by rw [HV.out]<;>rfl,rfl⟩
     have hq1:=KT.out.vC nY (t:=139) Tryz.underlying139 Tryz.underlying4 (oq _) HK1.out (fun h=>hs1 (HI1.out.1 h));by_cases j1:0<xf;rotate_left
     ·skip;have HV:=ah (show CL=false by rw [HQ.out];simp [j0,hs1,j1]);go_wp2_with fail;all_goals go_meet
      all_goals exact ⟨by rw [HV.out]<;>rfl,rfl⟩
     by_cases hs2:xf∈US
     ·have hq2:=KT.out.yO nY (t:=139) Tryz.underlying139 Tryz.underlying4 (oq _) HK2.out (HI2.out.2 hs2);have HV:=ah (show CL=true by rw [HQ.out];simp [j0,hs1,j1,hs2]);go_wp2_with fail;all_goals go_meet
      all_goals exact ⟨by rw [HV.out]<;>rfl,rfl⟩
     ·have hq2:=KT.out.vC nY (t:=139) Tryz.underlying139 Tryz.underlying4 (oq _) HK2.out (fun h=>hs2 (HI2.out.1 h));have HV:=ah (show CL=false by rw [HQ.out];simp [j0,hs1,j1,hs2]);go_wp2_with fail;all_goals go_meet
      all_goals exact ⟨by rw [HV.out]<;>rfl,rfl⟩
    case rest=>
     obtain ⟨rfl,rfl⟩:=hcut;cases CL;rotate_left
     ·skip;have HE:FF=12:=by rw [eZ.out];rfl
      have HV:=ah (show RES=12 by rw [gW.out,iB.out (by rw [HE];decide),HE]);clear HE;go_wp2_with fail;go_ret;exact ⟨by rw [HV.out]<;>rfl,(KC.out _ dI.out).1⟩
     have pO:=ah (show FF=gM xr by rw [eZ.out];rfl);clear eZ qQ K5 Ey HI1 HI2;have Di:=ah (HRC.out _ (KC.out _ dI.out).1);generalize gM xr=E at *;go_wp2_with fail;refine Di.out.mono ?_;rintro e wc ⟨rfl,hbc⟩;simp only [World.size_alloc] at hbc;have hzc:=hbc.size;simp only [World.size_alloc] at hzc;have kr:=ah (dI.out.trans (hbc.mono (by omega)));have HSN:=ah (oo.out.below hbc (by omega));have HSL:=ah (KT.out.below hbc (by omega));have e0:wc.cell? ⟨wr.heap.size,0,none⟩=some (.string xn):=(hbc.cell (p:=⟨wr.heap.size,0,none⟩) (by simp)).trans (by simp [go_sem]);have e2:wc.cell? ⟨wr.heap.size,2,none⟩=some (.int .i64 xs):=(hbc.cell (p:=⟨wr.heap.size,2,none⟩) (by simp)).trans (by simp [go_sem]);have e3:wc.cell? ⟨wr.heap.size,3,none⟩=some (.int .i64 xf):=(hbc.cell (p:=⟨wr.heap.size,3,none⟩) (by simp)).trans (by simp [go_sem]);clear hbc Di HRC d0 d1 d2 d3 d4 d5 d6 oo KT dI bA p0 p1 p2;by_cases hE:E=0;rotate_left
     ·have HV:=ah (show RES=E by rw [gW.out,iB.out (by rw [pO.out];exact hE),pO.out]);go_wp2_with fail;go_ret;exact ⟨by rw [HV.out]<;>rfl,(KC.out _ kr.out).1⟩
     have HV:=ah (show RES=bQ (kG ps) l (k+1) by rw [gW.out,sN.out (by rw [pO.out];exact hE)]);subst hE;go_upto_region 26 with fail;obtain ⟨wa,ra1,sa,ga⟩:=HSN.out.drew.update ug (t:=112) Tryz.underlying112 Tryz.underlying4 (by unfold maxLen;omega) HKN.out;obtain ⟨wb,rb1,sb,gb⟩:=HSL.out.drew.update nY (t:=139) Tryz.underlying139 Tryz.underlying4 (by unfold maxLen;omega) HK1.out;have sa':=HSL.out.drew.kept ga (by simp);have sb':=HSN.out.drew.kept gb (by simp);obtain ⟨wab,ra2,sab,gab⟩:=sa'.update nY (t:=139) Tryz.underlying139 Tryz.underlying4 (by unfold maxLen;omega) HK1.out;obtain ⟨wba,rb2,sba,gba⟩:=sb'.update ug (t:=112) Tryz.underlying112 Tryz.underlying4 (by unfold maxLen;omega) HKN.out;have za:=ga.size;have zb:=gb.size;have zab:=gab.size;have zba:=gba.size;simp only [World.size_drew] at za zb;have e0d:wc.drew.cell? ⟨wr.heap.size,0,none⟩=some (.string xn):=e0;have e2d:wc.drew.cell? ⟨wr.heap.size,2,none⟩=some (.int .i64 xs):=e2;have ea0:=(eF (off:=0) (b:=wr.heap.size) ga (by simp;omega) (by omega)).trans e0d;have ea2:=(eF (off:=2) (b:=wr.heap.size) ga (by simp;omega) (by omega)).trans e2d;have eb0:=(eF (off:=0) (b:=wr.heap.size) gb (by simp;omega) (by omega)).trans e0d;have eb2:=(eF (off:=2) (b:=wr.heap.size) gb (by simp;omega) (by omega)).trans e2d;have eab0:=(eF (off:=0) (b:=wr.heap.size) gab (by omega) (by omega)).trans ea0;have eab2:=(eF (off:=2) (b:=wr.heap.size) gab (by omega) (by omega)).trans ea2;have eba0:=(eF (off:=0) (b:=wr.heap.size) gba (by omega) (by omega)).trans eb0;have eba2:=(eF (off:=2) (b:=wr.heap.size) gba (by omega) (by omega)).trans eb2;have HAB:=ah (show (dH wab Tryz.prog 9 4 (w.heap.size+1) (k+1) (S++[Lit.string xn.data.toList])∧dH wab Tryz.prog 3 4 (w.heap.size+1+1) (2*k+1) (US.map (Lit.int .i64)++[Lit.int .i64 xs])∧Below (w.heap.size+1) (w.alloc (.cells #[.string pn,.int .i64 ps,.slice (some ⟨b,off,none⟩) l.length cap] 71)) wab∧wc.heap.size≤wab.heap.size∧wab.cell? ⟨wr.heap.size,3,none⟩=some (.int .i64 xf)) from ⟨sa.kept gab (by simp),sab,(kr.out.drew.grown ga (by simp;omega) (fun j hj=>by cases hj;omega)).grown gab (by omega) (fun j hj=>by cases hj;omega),by omega,(eF gab (by omega) (by omega)).trans ((eF ga (by simp;omega) (by omega)).trans e3)⟩);have Ou:=ah (show (dH wba Tryz.prog 9 4 (w.heap.size+1) (k+1) (S++[Lit.string xn.data.toList])∧dH wba Tryz.prog 3 4 (w.heap.size+1+1) (2*k+1) (US.map (Lit.int .i64)++[Lit.int .i64 xs])∧Below (w.heap.size+1) (w.alloc (.cells #[.string pn,.int .i64 ps,.slice (some ⟨b,off,none⟩) l.length cap] 71)) wba∧wc.heap.size≤wba.heap.size∧wba.cell? ⟨wr.heap.size,3,none⟩=some (.int .i64 xf)) from ⟨sba,sb.kept gba (by simp),(kr.out.drew.grown gb (by simp;omega) (fun j hj=>by cases hj;omega)).grown gba (by omega) (fun j hj=>by cases hj;omega),by omega,(eF gba (by omega) (by omega)).trans ((eF gb (by simp;omega) (by omega)).trans e3)⟩);clear sa sb sa' sb' sab sba ga gb gab gba za zb zab zba;go_cut [] (fun wx=>dH wx Tryz.prog 9 4 (w.heap.size+1) (k+1) (S++[Lit.string xn.data.toList])∧dH wx Tryz.prog 3 4 (w.heap.size+1+1) (2*k+1) (US.map (Lit.int .i64)++[Lit.int .i64 xs])∧Below (w.heap.size+1) (w.alloc (.cells #[.string pn,.int .i64 ps,.slice (some ⟨b,off,none⟩) l.length cap] 71)) wx∧wc.heap.size≤wx.heap.size∧wx.cell? ⟨wr.heap.size,3,none⟩=some (.int .i64 xf))
     case first=>
      go_region_held3 (fun W=>W.cell? ⟨wr.heap.size,0,none⟩=some (.string xn)∧W.cell? ⟨wr.heap.size,2,none⟩=some (.int .i64 xs))
       (constructor<;>assumption)
       (fail)
      all_goals go_wp2_with fail
      all_goals go_meet
      all_goals first | exact HAB.out | exact Ou.out
     case rest=>
      obtain ⟨hs1,hs2,hb6,hz6,c3⟩:=hcut;have Oq:=ah hs1;have HS2:=ah hs2;have tZ:=ah hb6;have Cn:w.heap.size+1+1<wc.heap.size:=by omega
      clear HAB Ou hs1 hs2 hb6 ra1 ra2 rb1 rb2 e0 e2 e3 e0d e2d ea0 ea2 eb0 eb2 eab0 eab2 eba0 eba2;by_cases j1:0<xf
      ·obtain ⟨wz,rz,sz,gz⟩:=HS2.out.update nY (t:=139) Tryz.underlying139 Tryz.underlying4 (by unfold maxLen;omega) HK2.out;have HS3:=ah (Oq.out.kept gz (by simp));have Ov:=ah (tZ.out.grown gz (by omega) (fun j hj=>by cases hj;omega))
       have HZ:=ah (show dH wz Tryz.prog 3 4 (w.heap.size+1+1) (2*(k+1)) ((iy (l.take (k+1))).map (Lit.int .i64)) by
        rw [HUS.out,yT.out,if_pos j1];have:=sz.mono (m:=2*(k+1)) (by omega);simpa using this)
       have hz7:=gz.size;clear gz sz HS2;go_wp2_with fail;go_roundw
       case rel=>exact ⟨k+1,by omega,by first | rfl | go_num,HV,Ov,ah (by rw [um.out];exact HS3.out),HZ,by omega⟩
       case measure=>simp [intOf];omega
      ·have HZ:=ah (show dH wc Tryz.prog 3 4 (w.heap.size+1+1) (2*(k+1)) ((iy (l.take (k+1))).map (Lit.int .i64)) by
        rw [HUS.out,yT.out,if_neg j1];have:=HS2.out.mono (m:=2*(k+1)) (by omega);simpa using this)
       clear HS2;go_wp2_with fail;go_roundw
       case rel=>exact ⟨k+1,by omega,by first | rfl | go_num,HV,tZ,ah (by rw [um.out];exact Oq.out),HZ,by omega⟩
       case measure=>simp [intOf];omega
  ·have HV:=ah (show RES=0 by rw [gW.out,gB (kG ps) l k (by omega)]);have nM:=ah hB;clear hB;have hkk:k=l.length:=by omega
   subst hkk;go_wp2_with fail;go_ret;exact ⟨by rw [HV.out]<;>rfl,nM.out⟩
end Go.Proofs.YtopmdeefcjdadaaGreat
