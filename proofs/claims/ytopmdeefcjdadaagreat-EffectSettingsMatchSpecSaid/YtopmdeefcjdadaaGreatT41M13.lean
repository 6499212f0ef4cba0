import Derived.Test.YtopmdeefcjdadaaGreatT41M00
import Derived.Test.YtopmdeefcjdadaaGreatT41M06
import Derived.Test.YtopmdeefcjdadaaGreatT41M12
import Derived.Test.YtopmdeefcjdadaaGreatT41M07
set_option linter.unusedVariables false
set_option linter.unusedSimpArgs false
set_option maxRecDepth 100000
set_option maxHeartbeats 32000000
namespace Go.Proofs.YtopmdeefcjdadaaGreat
open Go.RowKit
theorem Bp (x:jw) (lv uv:Value) (w:World) (h:kH w.heap.size w x lv uv) (hf:rA x) :
  Calls Tryz.prog 12 #[kS lv uv] w fun e w'=>e=.returned (.int .i64 (bW x))∧Below w.heap.size w w':=by
 have CL:=ah (fun W (hb:Below w.heap.size w W)=>Ad lv x.lib W ((h.lib.below hb).more hb.size) hf.1);have CP:=ah (fun (nm:ByteArray) W (hb:Below w.heap.size w W)=>Eo lv x.lib nm W ((h.lib.below hb).more hb.size));have HG:=ah (pF.get h.aD);have HF:=ah hf.2;have hm:=aW.len h.aD;unfold maxLen at hm;obtain ⟨⟨ll,hll,hlc,_⟩,hu⟩:=h;obtain ⟨lo,dJ,rfl,_⟩:=aW.shape hlc;obtain ⟨uo,dG,rfl,_⟩:=aW.shape hu;rw [show ll.length=x.lib.length by rw [←hll];simp] at *;clear hll hlc hu hf;obtain ⟨lib,aD⟩:=x;simp only [kS] at *;have ug:=ah (show bW ⟨lib,aD⟩=if eu lib≠0 then eu lib else if 400<aD.length then 2 else bP (jm lib) aD 0 from rfl);have JE:=ah (fun (h:eu lib=0)=>h);have HCF:=ah (@Il lib);have uV:=ah (@Ik lib);have xQ:=ah (@size_pos lib);generalize bW ⟨lib,aD⟩=RES at *
 have KC:=ah (show ∀W,Below (w.heap.size+1) (w.alloc (.cells #[.slice lo lib.length dJ,.slice uo aD.length dG] 25)) W→(Below w.heap.size w W∧w.heap.size<W.heap.size∧W.cell? ⟨w.heap.size,0,none⟩=some (.slice lo lib.length dJ)∧W.cell? ⟨w.heap.size,1,none⟩=some (.slice uo aD.length dG)) from fun W hW=>by
  have hz:=hW.size;simp at hz;exact ⟨((Below.refl _ _).alloc (Nat.le_refl _) _).trans (hW.mono (by omega)),by omega,(hW.cell (p:=⟨w.heap.size,0,none⟩) (by simp)).trans (by simp [go_sem]),(hW.cell (p:=⟨w.heap.size,1,none⟩) (by simp)).trans (by simp [go_sem])⟩)
 have KA:=ah (show ∀W o,Below (w.heap.size+1) (w.alloc (.cells #[.slice lo lib.length dJ,.slice uo aD.length dG] 25)) W→Below (w.heap.size+1) (w.alloc (.cells #[.slice lo lib.length dJ,.slice uo aD.length dG] 25)) (W.alloc o) from fun W o h=>h.alloc (by have:=h.size;simp at this;omega) o);have KM:=ah (show ∀W W1,Below (w.heap.size+1) (w.alloc (.cells #[.slice lo lib.length dJ,.slice uo aD.length dG] 25)) W→Below W.heap.size W W1→Below (w.heap.size+1) (w.alloc (.cells #[.slice lo lib.length dJ,.slice uo aD.length dG] 25)) W1 from fun W W1 h1 h2=>h1.trans (h2.mono (by have:=h1.size;simp at this;omega)));have HK0:=ah (Below.refl (w.heap.size+1) (w.alloc (.cells #[.slice lo lib.length dJ,.slice uo aD.length dG] 25)));have CL1:=ah (CL.out _ (KC.out _ HK0.out).1);clear CL;go_enter Tryz.func12,Tryz.ntmps12;go_wp2_with fail;refine CL1.out.mono ?_;rintro e w2 ⟨rfl,hb2⟩;have HB2:=ah (KM.out _ _ HK0.out hb2);clear hb2 CL1;obtain ⟨hB2,hz2,p0,p1⟩:=KC.out _ HB2.out;by_cases hE:eu lib=0;rotate_left
 ·have HV:=ah (show RES=eu lib by rw [ug.out,if_pos hE]);have rJ:=ah hB2;clear hB2 JE HCF xQ;generalize eu lib=E at *;go_wp2_with fail;go_ret;exact ⟨by rw [HV.out]<;>rfl,rJ.out⟩
 have HCF:=ah (fun pre hp (u:gM) (p:Prf) hu hb=>HCF.out hE pre hp u p hu hb);have xQ:=ah (fun (u:gM) (p:Prf) (hu:cB lib u.nm=some p)=>xQ.out hE hu);have hC1:RES=if 400<aD.length then 2 else bP (jm lib) aD 0:=by rw [ug.out,if_neg (by simpa using hE)]
 have Dr:=ah hC1;clear ug JE hC1;rw [hE];clear hE;by_cases h4:400<aD.length
 ·have HV:=ah (show RES=2 by rw [Dr.out,if_pos h4]);have rJ:=ah hB2;clear hB2;go_wp2_with fail;go_ret;exact ⟨by rw [HV.out]<;>rfl,rJ.out⟩
 have HC:=ah (show RES=bP (jm lib) aD 0 by rw [Dr.out,if_neg h4]);have h31:aD.length≤400:=by omega
 have HBM:=ah (KA.out _ (.map #[] 0) HB2.out);clear Dr h4 hB2;have hmm:=@run_makeMap Tryz.prog;go_wp2_with fail;clear hmm p0 p1;go_loopw [23] (fun i wx=>∃k:Nat,k≤aD.length∧i=.int .i64 k∧Hid (RES=bP (jm lib) aD k)∧Hid (Below (w.heap.size+1) (w.alloc (.cells #[.slice lo lib.length dJ,.slice uo aD.length dG] 25)) wx)∧Hid (gG w2.heap.size wx w2.heap.size (sW lib (aD.take k)))∧Hid (∀j (hj:j<aD.length),j<k→jm lib (aD.take j) aD[j]=0)∧w2.heap.size<wx.heap.size) (fun i _=>aD.length-(intOf i).toNat)
 case atStart=>exact ⟨0,Nat.zero_le _,rfl,HC,HBM,ah (by simpa [sW] using JH w2.heap.size w2),ah (fun j _ h=>absurd h (Nat.not_lt_zero _)),by simp⟩
 case round=>
  obtain ⟨k,hk,rfl,iO,bG,HUS,F9,F5⟩:=hrel;obtain ⟨hB,hz,p0,p1⟩:=KC.out wr bG.out;by_cases hlt:k<aD.length
  ·obtain ⟨b,off,cap',hsl,hb,_,hc⟩:=HG.out (by omega);injection hsl with hs1 hs2 hs3;subst hs1 hs3;obtain ⟨d0,d1,d2,d3⟩:=hc k hlt wr hB;have uT:=ah (fun (h0:0<k)=>hc (k-1) (by omega) wr hB);have hbr:b<wr.heap.size:=by have:=hB.size;omega
   obtain ⟨g0,g1,g2,g3⟩:=HF.out _ (List.getElem_mem hlt);have Dn:=ah g1;have rG:=ah (eZ (jm lib) aD k hlt);have iG:=ah (fP (jm lib) aD k hlt);have eF:=ah (show jm lib (aD.take k) aD[k]=if !bU aD[k].num 1 9999 then 1 else if jW (aD.take k) aD[k] then 7 else if (cB lib aD[k].nm).isNone then 5 else if iP aD[k] (sizeOf' lib aD[k]) then 1 else if (aD.take k).any (jK lib aD[k]) then 12 else 0 from rfl);have pK:=ah (show k=0→jW (aD.take k) aD[k]=false from fun h0=>by subst h0;rfl);have xS:=ah (show ∀h0:0<k,jW (aD.take k) aD[k]=decide (aD[k].num≤(aD[k-1]'(by omega)).num) from fun h0=>by unfold jW;rw [om aD k hlt h0];rfl);have HKW:=ah (Kt hk F9.out)
   have Dl:=ah (show jm lib (aD.take k) aD[k]=0→∀j (hj:j<aD.length),j<k+1→jm lib (aD.take j) aD[j]=0 from fun h j hj hjk=>by
    by_cases c:j=k
    ·subst c;exact h
    ·exact F9.out j hj (by omega))
   have HUN:=ah (JI lib aD k hlt);have nQ:=ah (fun (p:Prf) (hu:cB lib aD[k].nm=some p) (hb:iP aD[k] p.size=false)=>HCF.out _ HKW.out aD[k] p hu hb);have Qh:=ah (uV.out (aD.take k) aD[k]);have wM:=ah (xQ.out aD[k]);have HSO:=ah (show ∀p,cB lib aD[k].nm=some p→sizeOf' lib aD[k]=p.size from fun p hu=>rQ hu);have HUL:=ah (show (sW lib (aD.take k)).length≤100000 by rw [Nl,List.length_take];omega);have hnm:aD[k].nm=aD[k].yL.data.toList:=rfl;rw [hnm] at eF nQ wM HSO;generalize jW (aD.take k) aD[k]=LW at *;generalize jm lib (aD.take k) aD[k]=FF at *;generalize (aD.take k).any (jK lib aD[k])=CH at *;generalize sW lib (aD.take k)=US at *;clear hnm hc g0 g1 g2 g3 HKW F9 hB;generalize kM:aD[k]=rk at *;clear kM;obtain ⟨un,up,uu,ua⟩:=rk;simp only at *;have dN:=ah (KA.out _ (.cells #[.int .i64 un,.string up,.int .i64 uu,.int .i64 ua] 67) bG.out);have HUX:=ah (HUS.out.alloc (.cells #[.int .i64 un,.string up,.int .i64 uu,.int .i64 ua] 67));clear HUS;rcases Bool.eq_false_or_eq_true (bU un 1 9999) with k0 | k0;rotate_left
   ·skip;have HE:FF=1:=by rw [eF.out];simp [k0]
    have HV:=ah (show RES=1 by rw [iO.out,iG.out (by rw [HE];decide),HE]);clear HE;go_wp2_with (first | (go_at_call 31;((with_reducible refine (aU _ _ _ _).mono ?_);rintro e w' ⟨rfl,rfl⟩)) | fail);go_ret;exact ⟨by rw [HV.out]<;>rfl,(KC.out _ dN.out).1⟩
   have qy:=ah (show FF=if LW then 7 else if (cB lib up.data.toList).isNone then 5 else if iP ⟨un,up,uu,ua⟩ (sizeOf' lib ⟨un,up,uu,ua⟩) then 1 else if CH then 12 else 0 by rw [eF.out];simp [k0]);go_upto_region 12 with (first | (go_at_call 31;((with_reducible refine (aU _ _ _ _).mono ?_);rintro e w' ⟨rfl,rfl⟩)) | fail);clear eF k0;have eF:=qy;clear qy;go_cut [45] (fun s45 wx=>s45=.bool LW∧Below wx.heap.size (wr.alloc (.cells #[.int .i64 un,.string up,.int .i64 uu,.int .i64 ua] 67)) wx∧wx.heap.size=wr.heap.size+1)
   case first=>
    by_cases h0:k=0
    ·subst h0;have HV:=ah (pK.out rfl);clear uT xS pK;go_quiet (fail)
     go_wp2_with fail;all_goals go_meet
     all_goals exact ⟨by rw [HV.out]<;>rfl,eY (Below.refl _ _) _,by simp⟩
    ·obtain ⟨j,rfl⟩:∃j,k=j+1:=⟨k-1,by omega⟩;have qx:=ah (xS.out (by omega));obtain ⟨d4,_,_,_⟩:=uT.out (by omega);clear uT xS pK;simp only [Nat.add_sub_cancel] at d4;have hlow:(aD[j+1-1]'(by omega))=aD[j]:=by simp
     rw [hlow] at qx;clear hlow;generalize aD[j]=rj at *;obtain ⟨jn,jp,ju,ja⟩:=rj;simp only at d4;have hji:((j+1:Nat):Int)-1=(j:Int):=by omega
     by_cases hle:un≤jn
     ·skip;have HV:=ah (show LW=true by rw [qx.out];simpa using hle);clear qx;go_quiet (fail)
      go_wp2_with fail;all_goals go_meet
      all_goals exact ⟨by rw [HV.out]<;>rfl,eY (Below.refl _ _) _,by simp⟩
     ·skip;have HV:=ah (show LW=false by rw [qx.out];simpa using hle);clear qx;have OO:decide (un≤jn)=false:=by simpa using hle
      go_quiet (fail)
      go_wp2_with fail;all_goals go_meet
      all_goals exact ⟨by rw [HV.out]<;>rfl,eY (Below.refl _ _) _,by simp⟩
   case rest=>
    obtain ⟨rfl,hb3,hz3⟩:=hcut;have ng:=ah (KM.out _ wc dN.out (hb3.mono (by simp;omega)));have HUC:=ah (HUX.out.below (hb3.mono (by simp;omega)));have e0:wc.cell? ⟨wr.heap.size,0,none⟩=some (.int .i64 un):=(hb3.cell (p:=⟨wr.heap.size,0,none⟩) (by simp;omega)).trans (by simp [go_sem]);have e1:wc.cell? ⟨wr.heap.size,1,none⟩=some (.string up):=(hb3.cell (p:=⟨wr.heap.size,1,none⟩) (by simp;omega)).trans (by simp [go_sem]);have e2:wc.cell? ⟨wr.heap.size,2,none⟩=some (.int .i64 uu):=(hb3.cell (p:=⟨wr.heap.size,2,none⟩) (by simp;omega)).trans (by simp [go_sem]);have e3:wc.cell? ⟨wr.heap.size,3,none⟩=some (.int .i64 ua):=(hb3.cell (p:=⟨wr.heap.size,3,none⟩) (by simp;omega)).trans (by simp [go_sem]);clear hb3 d0 d1 d2 d3 xS pK uT dN HUX bG p0 p1;obtain ⟨hBc,_,p0,p1⟩:=KC.out wc ng.out;have hbc:b<wc.heap.size:=by omega
    have CP1:=ah (CP.out up wc hBc);clear hBc;cases LW;rotate_left
    ·have k0:=True.intro;have HE:FF=7:=by rw [eF.out];simp [k0]
     have HV:=ah (show RES=7 by rw [iO.out,iG.out (by rw [HE];decide),HE]);clear HE;go_wp2_with fail;go_ret;exact ⟨by rw [HV.out]<;>rfl,(KC.out _ ng.out).1⟩
    have qy:=ah (show FF=if (cB lib up.data.toList).isNone then 5 else if iP ⟨un,up,uu,ua⟩ (sizeOf' lib ⟨un,up,uu,ua⟩) then 1 else if CH then 12 else 0 by rw [eF.out];rfl);clear eF;have eF:=qy;clear qy;generalize cB lib up.data.toList=PO at *;go_wp2_with fail;refine CP1.out.mono ?_;rintro e w5 ⟨pv,rfl,hpv,hb5⟩;have hz5:=hb5.size;have hbu5:wr.heap.size<w5.heap.size:=by omega
    have tZ:=ah (KM.out _ _ ng.out hb5);have HU5:=ah (HUC.out.below hb5);have f0:w5.cell? ⟨wr.heap.size,0,none⟩=some (.int .i64 un):=(hb5.cell (p:=⟨wr.heap.size,0,none⟩) (by simp;omega)).trans e0;have f1:w5.cell? ⟨wr.heap.size,1,none⟩=some (.string up):=(hb5.cell (p:=⟨wr.heap.size,1,none⟩) (by simp;omega)).trans e1;have f2:w5.cell? ⟨wr.heap.size,2,none⟩=some (.int .i64 uu):=(hb5.cell (p:=⟨wr.heap.size,2,none⟩) (by simp;omega)).trans e2;have f3:w5.cell? ⟨wr.heap.size,3,none⟩=some (.int .i64 ua):=(hb5.cell (p:=⟨wr.heap.size,3,none⟩) (by simp;omega)).trans e3;clear hb5 CP1 e0 e1 e2 e3 ng HUC p0 p1
    cases PO with
    | none=>
     obtain rfl:pv=.agg #[.string ⟨#[]⟩,.int .i64 0,.slice none 0 0]:=hpv;have wP:=ah (KA.out _ (.cells #[.string ⟨#[]⟩,.int .i64 0,.slice none 0 0] 71) tZ.out);have k0:=True.intro;have HE:FF=5:=by rw [eF.out];simp [k0]
     have HV:=ah (show RES=5 by rw [iO.out,iG.out (by rw [HE];decide),HE]);clear HE;go_wp2_with fail;go_ret;exact ⟨by rw [HV.out]<;>rfl,(KC.out _ wP.out).1⟩
    | some p=>
     obtain ⟨sv,rfl,hps⟩:=hpv;obtain ⟨pn,pz,pl⟩:=p;obtain ⟨po,jc,rfl⟩:=gJ hps;simp only at hps;have wP:=ah (KA.out _ (.cells #[.string pn,.int .i64 pz,.slice po pl.length jc] 71) tZ.out);have HU6:=ah (HU5.out.alloc (.cells #[.string pn,.int .i64 pz,.slice po pl.length jc] 71));have nQ:=ah (nQ.out _ rfl);obtain ⟨hpz1,hpz2⟩:=wM.out _ rfl;have hso:=HSO.out _ rfl;rw [hso] at HUN;have qy:=ah (show FF=if iP ⟨un,up,uu,ua⟩ pz then 1 else if CH then 12 else 0 by rw [eF.out,hso];rfl);have pO:=ah (show iP ⟨un,up,uu,ua⟩ pz=(!bU uu 1 64||!bU ua 1 512||decide (512<ua+pz-1)) from rfl);have HBF:=ah (show iP ⟨un,up,uu,ua⟩ pz=false→(1≤uu∧uu≤64)∧(1≤ua∧ua≤512)∧ua+pz-1≤512 from fun h=>jX h);clear eF hso wM HSO tZ HU5;have eF:=qy;clear qy;simp only at nQ hpz1 hpz2 HUN;generalize iP ⟨un,up,uu,ua⟩ pz=BD at *;go_upto_region 17 with fail;go_cut [74] (fun s74 wx=>s74=.bool BD∧wx=w5.alloc (.cells #[.string pn,.int .i64 pz,.slice po pl.length jc] 71))
     case first=>
      rcases Bool.eq_false_or_eq_true (bU uu 1 64) with j0 | j0;rotate_left
      ·skip;have HV:=ah (show BD=true by rw [pO.out];simp [j0]);go_wp2_with (first | (go_at_call 31;((with_reducible refine (aU _ _ _ _).mono ?_);rintro e w' ⟨rfl,rfl⟩)) | fail);all_goals go_meet
       all_goals exact ⟨by rw [HV.out]<;>rfl,rfl⟩
      rcases Bool.eq_false_or_eq_true (bU ua 1 512) with j1 | j1;rotate_left
      ·skip;have HV:=ah (show BD=true by rw [pO.out];simp [j0,j1]);go_wp2_with (first | (go_at_call 31;((with_reducible refine (aU _ _ _ _).mono ?_);rintro e w' ⟨rfl,rfl⟩)) | fail);all_goals go_meet
       all_goals exact ⟨by rw [HV.out]<;>rfl,rfl⟩
      obtain ⟨j4,j5⟩:=iU j1;by_cases j2:512<ua+pz-1
      ·skip;have HV:=ah (show BD=true by rw [pO.out];simp [j0,j1,j2]);go_wp2_with (first | (go_at_call 31;((with_reducible refine (aU _ _ _ _).mono ?_);rintro e w' ⟨rfl,rfl⟩)) | fail);all_goals go_meet
       all_goals exact ⟨by rw [HV.out]<;>rfl,rfl⟩
      ·skip;have HV:=ah (show BD=false by rw [pO.out];simp [j0,j1];omega);have j3:decide (512<ua+pz-1)=false:=by simpa using j2
       go_wp2_with (first | (go_at_call 31;((with_reducible refine (aU _ _ _ _).mono ?_);rintro e w' ⟨rfl,rfl⟩)) | fail);all_goals go_meet
       all_goals exact ⟨by rw [HV.out]<;>rfl,rfl⟩
     case rest=>
      obtain ⟨rfl,rfl⟩:=hcut;cases BD;rotate_left
      ·have k0:=True.intro;have HE:FF=1:=by rw [eF.out];simp [k0]
       have HV:=ah (show RES=1 by rw [iO.out,iG.out (by rw [HE];decide),HE]);clear HE;go_wp2_with fail;go_ret;exact ⟨by rw [HV.out]<;>rfl,(KC.out _ wP.out).1⟩
      obtain ⟨⟨i1,i2⟩,⟨i3,i4⟩,i5⟩:=HBF.out rfl;have nQ:=ah (nQ.out rfl);have qy:=ah (show FF=if CH then 12 else 0 by rw [eF.out];rfl);clear eF pO HBF;have eF:=qy;clear qy;go_upto_region 19 with fail;go_cut [84] (fun s84 wx=>s84=.bool CH∧wx=w5.alloc (.cells #[.string pn,.int .i64 pz,.slice po pl.length jc] 71))
      case first=>
       obtain ⟨n,f,hn,hM,hU,hI⟩:=HU6.out;rcases hU uu with ⟨hf,hno⟩ | ⟨g,hf,hbg,hgm,hgl,hS⟩
       ·have hq:=hM.look false nE (t:=65) Tryz.underlying65 (nW _) (l7 Dn.out);rw [hf] at hq;simp only [Option.getD_none,Bool.false_eq_true,if_false] at hq;have HV:=ah (show CH=false from Qh.out hno);clear hM hU hI hno hf;go_wp2_with (first | (go_at_call 33;((with_reducible refine (Pg _ _ _ (by omega) (by omega) (by omega) (by omega)).mono ?_);rintro e w' ⟨rfl,rfl⟩)) | fail);all_goals go_meet
        all_goals exact ⟨by rw [HV.out]<;>rfl,rfl⟩
       ·have hq:=hM.look false nE (t:=65) Tryz.underlying65 (nW _) (l7 Dn.out);rw [hf] at hq;simp only [Option.getD_some,Bool.false_eq_true,if_false,oP] at hq;have HFP:=ah (O9 g _ ua pz _ hS hgl (by omega) (by omega) (by omega) (by omega));clear hM hU hI hf hS;go_wp2_with (first | (go_at_call 33;((with_reducible refine HFP.out.mono ?_);rintro e w' ⟨rfl,rfl⟩)) | fail);all_goals go_meet
        all_goals exact ⟨by rw [nQ.out]<;>first | rfl | trivial,rfl⟩
      case rest=>
       obtain ⟨rfl,rfl⟩:=hcut;cases CH;rotate_left
       ·have k0:=True.intro;have HE:FF=12:=by rw [eF.out];simp [k0]
        have HV:=ah (show RES=12 by rw [iO.out,iG.out (by rw [HE];decide),HE]);clear HE;go_wp2_with fail;go_ret;exact ⟨by rw [HV.out]<;>rfl,(KC.out _ wP.out).1⟩
       have HE:FF=0:=by rw [eF.out];rfl
       have HV:=ah (show RES=bP (jm lib) aD (k+1) by rw [iO.out,rG.out HE]);have IL:=ah (Dl.out HE);have sU:=ah (Ny w2.heap.size w2.heap.size US ⟨un,up,uu,ua⟩ pz _ HU6.out HUL.out (Nat.le_refl _) Dn.out (by simpa using i3) (by omega) (by simpa using i5));simp only at sU;clear HE Dl HU6;go_wp2_with fail;refine sU.out.mono ?_;rintro e w7 ⟨rfl,hu7,vS⟩;have MR:=ah (wP.out.trans (vS.mono (by omega)));have HU7:=ah (show gG w2.heap.size w7 w2.heap.size (sW lib (aD.take (k+1))) by rw [HUN.out];exact hu7);have hz7:=vS.size;simp only [World.size_alloc] at hz7;clear hu7 vS sU f0 f1 f2 f3;go_wp2_with fail;go_roundw
       case rel=>exact ⟨k+1,by omega,by first | rfl | go_num,HV,MR,HU7,IL,by omega⟩
       case measure=>simp [intOf];omega
  ·have HV:=ah (show RES=0 by rw [iO.out,fO (jm lib) aD k (by omega)]);have rJ:=ah hB;clear hB;have hkk:k=aD.length:=by omega
   subst hkk;go_wp2_with fail;go_ret;exact ⟨by rw [HV.out]<;>rfl,rJ.out⟩
end Go.Proofs.YtopmdeefcjdadaaGreat
