import Derived.Test.YtopmdeefcjdadaaGreatT42M00
import Derived.Test.YtopmdeefcjdadaaGreatT42M05
import Derived.Test.YtopmdeefcjdadaaGreatT42M11
import Derived.Test.YtopmdeefcjdadaaGreatT42M06
set_option linter.unusedVariables false
set_option linter.unusedSimpArgs false
set_option maxRecDepth 100000
set_option maxHeartbeats 32000000
namespace Go.Proofs.YtopmdeefcjdadaaGreat
open Go.RowKit
theorem Ny (x:iK) (lv uv:Value) (w:World) (h:kV w.heap.size w x lv uv) (hf:uO x) :
  Calls Tryz.prog 12 #[mG lv uv] w fun e w'=>e=.returned (.int .i64 (bR x))∧Below w.heap.size w w':=by
 have CL:=ah (fun W (hb:Below w.heap.size w W)=>Bh lv x.lib W ((h.lib.below hb).more hb.size) hf.1);have CP:=ah (fun (nm:ByteArray) W (hb:Below w.heap.size w W)=>Fw lv x.lib nm W ((h.lib.below hb).more hb.size));have HG:=ah (qH.get h.aF);have HF:=ah hf.2;have hm:=aW.len h.aF;unfold maxLen at hm;obtain ⟨⟨ll,hll,hlc,_⟩,hu⟩:=h;obtain ⟨lo,dU,rfl,_⟩:=aW.shape hlc;obtain ⟨uo,dR,rfl,_⟩:=aW.shape hu;rw [show ll.length=x.lib.length by rw [←hll];simp] at *;clear hll hlc hu hf;obtain ⟨lib,aF⟩:=x;simp only [mG] at *;have uV:=ah (show bR ⟨lib,aF⟩=if eY lib≠0 then eY lib else if 400<aF.length then 2 else bQ (jB lib) aF 0 from rfl);have K5:=ah (fun (h:eY lib=0)=>h);have HCF:=ah (@Jz lib);have vU:=ah (@Jy lib);have yT:=ah (@size_pos lib);generalize bR ⟨lib,aF⟩=RES at *
 have KC:=ah (show ∀W,Below (w.heap.size+1) (w.alloc (.cells #[.slice lo lib.length dU,.slice uo aF.length dR] 25)) W→(Below w.heap.size w W∧w.heap.size<W.heap.size∧W.cell? ⟨w.heap.size,0,none⟩=some (.slice lo lib.length dU)∧W.cell? ⟨w.heap.size,1,none⟩=some (.slice uo aF.length dR)) from fun W hW=>by
  have hz:=hW.size;simp at hz;exact ⟨((Below.refl _ _).alloc (Nat.le_refl _) _).trans (hW.mono (by omega)),by omega,(hW.cell (p:=⟨w.heap.size,0,none⟩) (by simp)).trans (by simp [go_sem]),(hW.cell (p:=⟨w.heap.size,1,none⟩) (by simp)).trans (by simp [go_sem])⟩)
 have KA:=ah (show ∀W o,Below (w.heap.size+1) (w.alloc (.cells #[.slice lo lib.length dU,.slice uo aF.length dR] 25)) W→Below (w.heap.size+1) (w.alloc (.cells #[.slice lo lib.length dU,.slice uo aF.length dR] 25)) (W.alloc o) from fun W o h=>h.alloc (by have:=h.size;simp at this;omega) o);have KM:=ah (show ∀W W1,Below (w.heap.size+1) (w.alloc (.cells #[.slice lo lib.length dU,.slice uo aF.length dR] 25)) W→Below W.heap.size W W1→Below (w.heap.size+1) (w.alloc (.cells #[.slice lo lib.length dU,.slice uo aF.length dR] 25)) W1 from fun W W1 h1 h2=>h1.trans (h2.mono (by have:=h1.size;simp at this;omega)));have HK0:=ah (Below.refl (w.heap.size+1) (w.alloc (.cells #[.slice lo lib.length dU,.slice uo aF.length dR] 25)));have CL1:=ah (CL.out _ (KC.out _ HK0.out).1);clear CL;go_enter Tryz.func12,Tryz.ntmps12;go_wp2_with fail;refine CL1.out.mono ?_;rintro e w2 ⟨rfl,hb2⟩;have HB2:=ah (KM.out _ _ HK0.out hb2);clear hb2 CL1;obtain ⟨hB2,hz2,p0,p1⟩:=KC.out _ HB2.out;by_cases hE:eY lib=0;rotate_left
 ·have HV:=ah (show RES=eY lib by rw [uV.out,if_pos hE]);have nM:=ah hB2;clear hB2 K5 HCF yT;generalize eY lib=E at *;go_wp2_with fail;go_ret;exact ⟨by rw [HV.out]<;>rfl,nM.out⟩
 have HCF:=ah (fun pre hp (u:gX) (p:Prf) hu hb=>HCF.out hE pre hp u p hu hb);have yT:=ah (fun (u:gX) (p:Prf) (hu:cZ lib u.nm=some p)=>yT.out hE hu);have hC1:RES=if 400<aF.length then 2 else bQ (jB lib) aF 0:=by rw [uV.out,if_neg (by simpa using hE)]
 have EA:=ah hC1;clear uV K5 hC1;rw [hE];clear hE;by_cases h4:400<aF.length
 ·have HV:=ah (show RES=2 by rw [EA.out,if_pos h4]);have nM:=ah hB2;clear hB2;go_wp2_with fail;go_ret;exact ⟨by rw [HV.out]<;>rfl,nM.out⟩
 have HC:=ah (show RES=bQ (jB lib) aF 0 by rw [EA.out,if_neg h4]);have h31:aF.length≤400:=by omega
 have HBM:=ah (KA.out _ (.map #[] 0) HB2.out);clear EA h4 hB2;have hmm:=@run_makeMap Tryz.prog;go_wp2_with fail;clear hmm p0 p1;go_loopw [23] (fun i wx=>∃k:Nat,k≤aF.length∧i=.int .i64 k∧Hid (RES=bQ (jB lib) aF k)∧Hid (Below (w.heap.size+1) (w.alloc (.cells #[.slice lo lib.length dU,.slice uo aF.length dR] 25)) wx)∧Hid (gN w2.heap.size wx w2.heap.size (uw lib (aF.take k)))∧Hid (∀j (hj:j<aF.length),j<k→jB lib (aF.take j) aF[j]=0)∧w2.heap.size<wx.heap.size) (fun i _=>aF.length-(intOf i).toNat)
 case atStart=>exact ⟨0,Nat.zero_le _,rfl,HC,HBM,ah (by simpa [uw] using K9 w2.heap.size w2),ah (fun j _ h=>absurd h (Nat.not_lt_zero _)),by simp⟩
 case round=>
  obtain ⟨k,hk,rfl,gW,bA,HUS,Ht,Ho⟩:=hrel;obtain ⟨hB,hz,p0,p1⟩:=KC.out wr bA.out;by_cases hlt:k<aF.length
  ·obtain ⟨b,off,cap',hsl,hb,_,hc⟩:=HG.out (by omega);injection hsl with hs1 hs2 hs3;subst hs1 hs3;obtain ⟨d0,d1,d2,d3⟩:=hc k hlt wr hB;have vS:=ah (fun (h0:0<k)=>hc (k-1) (by omega) wr hB);have hbr:b<wr.heap.size:=by have:=hB.size;omega
   obtain ⟨g0,g1,g2,g3⟩:=HF.out _ (List.getElem_mem hlt);have Az:=ah g1;have sN:=ah (fD (jB lib) aF k hlt);have iB:=ah (gD (jB lib) aF k hlt);have eZ:=ah (show jB lib (aF.take k) aF[k]=if !bW aF[k].num 1 9999 then 1 else if kD (aF.take k) aF[k] then 7 else if (cZ lib aF[k].nm).isNone then 5 else if jc aF[k] (sizeOf' lib aF[k]) then 1 else if (aF.take k).any (jR lib aF[k]) then 12 else 0 from rfl);have qK:=ah (show k=0→kD (aF.take k) aF[k]=false from fun h0=>by subst h0;rfl);have yX:=ah (show ∀h0:0<k,kD (aF.take k) aF[k]=decide (aF[k].num≤(aF[k-1]'(by omega)).num) from fun h0=>by unfold kD;rw [oU aF k hlt h0];rfl);have HKW:=ah (Mr hk Ht.out)
   have Eu:=ah (show jB lib (aF.take k) aF[k]=0→∀j (hj:j<aF.length),j<k+1→jB lib (aF.take j) aF[j]=0 from fun h j hj hjk=>by
    by_cases c:j=k
    ·subst c;exact h
    ·exact Ht.out j hj (by omega))
   have HUN:=ah (Lh lib aF k hlt);have qO:=ah (fun (p:Prf) (hu:cZ lib aF[k].nm=some p) (hb:jc aF[k] p.size=false)=>HCF.out _ HKW.out aF[k] p hu hb);have HCY:=ah (vU.out (aF.take k) aF[k]);have oo:=ah (yT.out aF[k]);have HSO:=ah (show ∀p,cZ lib aF[k].nm=some p→sizeOf' lib aF[k]=p.size from fun p hu=>sS hu);have HUL:=ah (show (uw lib (aF.take k)).length≤100000 by rw [OP,List.length_take];omega);have hnm:aF[k].nm=aF[k].zQ.data.toList:=rfl;rw [hnm] at eZ qO oo HSO;generalize kD (aF.take k) aF[k]=LW at *;generalize jB lib (aF.take k) aF[k]=FF at *;generalize (aF.take k).any (jR lib aF[k])=CH at *;generalize uw lib (aF.take k)=US at *;clear hnm hc g0 g1 g2 g3 HKW Ht hB;generalize kC:aF[k]=rk at *;clear kC;obtain ⟨un,up,uu,ua⟩:=rk;simp only at *;have dI:=ah (KA.out _ (.cells #[.int .i64 un,.string up,.int .i64 uu,.int .i64 ua] 67) bA.out);have HUX:=ah (HUS.out.alloc (.cells #[.int .i64 un,.string up,.int .i64 uu,.int .i64 ua] 67));clear HUS;rcases Bool.eq_false_or_eq_true (bW un 1 9999) with k0 | k0;rotate_left
   ·skip;have HE:FF=1:=by rw [eZ.out];simp [k0]
    have HV:=ah (show RES=1 by rw [gW.out,iB.out (by rw [HE];decide),HE]);clear HE;go_wp2_with (first | (go_at_call 31;((with_reducible refine (aV _ _ _ _).mono ?_);rintro e w' ⟨rfl,rfl⟩)) | fail);go_ret;exact ⟨by rw [HV.out]<;>rfl,(KC.out _ dI.out).1⟩
   have pO:=ah (show FF=if LW then 7 else if (cZ lib up.data.toList).isNone then 5 else if jc ⟨un,up,uu,ua⟩ (sizeOf' lib ⟨un,up,uu,ua⟩) then 1 else if CH then 12 else 0 by rw [eZ.out];simp [k0]);go_upto_region 12 with (first | (go_at_call 31;((with_reducible refine (aV _ _ _ _).mono ?_);rintro e w' ⟨rfl,rfl⟩)) | fail);clear eZ k0;have eZ:=pO;clear pO;go_cut [45] (fun s45 wx=>s45=.bool LW∧Below wx.heap.size (wr.alloc (.cells #[.int .i64 un,.string up,.int .i64 uu,.int .i64 ua] 67)) wx∧wx.heap.size=wr.heap.size+1)
   case first=>
    by_cases h0:k=0
    ·subst h0;have HV:=ah (qK.out rfl);clear vS yX qK;go_quiet (fail)
     go_wp2_with fail;all_goals go_meet
     all_goals exact ⟨by rw [HV.out]<;>rfl,fC (Below.refl _ _) _,by simp⟩
    ·obtain ⟨j,rfl⟩:∃j,k=j+1:=⟨k-1,by omega⟩;have rD:=ah (yX.out (by omega));obtain ⟨d4,_,_,_⟩:=vS.out (by omega);clear vS yX qK;simp only [Nat.add_sub_cancel] at d4;have hlow:(aF[j+1-1]'(by omega))=aF[j]:=by simp
     rw [hlow] at rD;clear hlow;generalize aF[j]=rj at *;obtain ⟨jn,jp,ju,ja⟩:=rj;simp only at d4;have hji:((j+1:Nat):Int)-1=(j:Int):=by omega
     by_cases hle:un≤jn
     ·skip;have HV:=ah (show LW=true by rw [rD.out];simpa using hle);clear rD;go_quiet (fail)
      go_wp2_with fail;all_goals go_meet
      all_goals exact ⟨by rw [HV.out]<;>rfl,fC (Below.refl _ _) _,by simp⟩
     ·skip;have HV:=ah (show LW=false by rw [rD.out];simpa using hle);clear rD;have Qw:decide (un≤jn)=false:=by simpa using hle
      go_quiet (fail)
      go_wp2_with fail;all_goals go_meet
      all_goals exact ⟨by rw [HV.out]<;>rfl,fC (Below.refl _ _) _,by simp⟩
   case rest=>
    obtain ⟨rfl,hb3,hz3⟩:=hcut;have kr:=ah (KM.out _ wc dI.out (hb3.mono (by simp;omega)));have HUC:=ah (HUX.out.below (hb3.mono (by simp;omega)));have e0:wc.cell? ⟨wr.heap.size,0,none⟩=some (.int .i64 un):=(hb3.cell (p:=⟨wr.heap.size,0,none⟩) (by simp;omega)).trans (by simp [go_sem]);have e1:wc.cell? ⟨wr.heap.size,1,none⟩=some (.string up):=(hb3.cell (p:=⟨wr.heap.size,1,none⟩) (by simp;omega)).trans (by simp [go_sem]);have e2:wc.cell? ⟨wr.heap.size,2,none⟩=some (.int .i64 uu):=(hb3.cell (p:=⟨wr.heap.size,2,none⟩) (by simp;omega)).trans (by simp [go_sem]);have e3:wc.cell? ⟨wr.heap.size,3,none⟩=some (.int .i64 ua):=(hb3.cell (p:=⟨wr.heap.size,3,none⟩) (by simp;omega)).trans (by simp [go_sem]);clear hb3 d0 d1 d2 d3 yX qK vS dI HUX bA p0 p1;obtain ⟨hBc,_,p0,p1⟩:=KC.out wc kr.out;have hbc:b<wc.heap.size:=by omega
    have CP1:=ah (CP.out up wc hBc);clear hBc;cases LW;rotate_left
    ·have k0:=True.intro;have HE:FF=7:=by rw [eZ.out];simp [k0]
     have HV:=ah (show RES=7 by rw [gW.out,iB.out (by rw [HE];decide),HE]);clear HE;go_wp2_with fail;go_ret;exact ⟨by rw [HV.out]<;>rfl,(KC.out _ kr.out).1⟩
    have pO:=ah (show FF=if (cZ lib up.data.toList).isNone then 5 else if jc ⟨un,up,uu,ua⟩ (sizeOf' lib ⟨un,up,uu,ua⟩) then 1 else if CH then 12 else 0 by rw [eZ.out];rfl);clear eZ;have eZ:=pO;clear pO;generalize cZ lib up.data.toList=PO at *;go_wp2_with fail;refine CP1.out.mono ?_;rintro e w5 ⟨pv,rfl,hpv,hb5⟩;have hz5:=hb5.size;have hbu5:wr.heap.size<w5.heap.size:=by omega
    have nU:=ah (KM.out _ _ kr.out hb5);have HU5:=ah (HUC.out.below hb5);have f0:w5.cell? ⟨wr.heap.size,0,none⟩=some (.int .i64 un):=(hb5.cell (p:=⟨wr.heap.size,0,none⟩) (by simp;omega)).trans e0;have f1:w5.cell? ⟨wr.heap.size,1,none⟩=some (.string up):=(hb5.cell (p:=⟨wr.heap.size,1,none⟩) (by simp;omega)).trans e1;have f2:w5.cell? ⟨wr.heap.size,2,none⟩=some (.int .i64 uu):=(hb5.cell (p:=⟨wr.heap.size,2,none⟩) (by simp;omega)).trans e2;have f3:w5.cell? ⟨wr.heap.size,3,none⟩=some (.int .i64 ua):=(hb5.cell (p:=⟨wr.heap.size,3,none⟩) (by simp;omega)).trans e3;clear hb5 CP1 e0 e1 e2 e3 kr HUC p0 p1
    cases PO with
    | none=>
     obtain rfl:pv=.agg #[.string ⟨#[]⟩,.int .i64 0,.slice none 0 0]:=hpv;have tZ:=ah (KA.out _ (.cells #[.string ⟨#[]⟩,.int .i64 0,.slice none 0 0] 71) nU.out);have k0:=True.intro;have HE:FF=5:=by rw [eZ.out];simp [k0]
     have HV:=ah (show RES=5 by rw [gW.out,iB.out (by rw [HE];decide),HE]);clear HE;go_wp2_with fail;go_ret;exact ⟨by rw [HV.out]<;>rfl,(KC.out _ tZ.out).1⟩
    | some p=>
     obtain ⟨sv,rfl,hps⟩:=hpv;obtain ⟨pn,pz,pl⟩:=p;obtain ⟨po,jr,rfl⟩:=gQ hps;simp only at hps;have tZ:=ah (KA.out _ (.cells #[.string pn,.int .i64 pz,.slice po pl.length jr] 71) nU.out);have HU6:=ah (HU5.out.alloc (.cells #[.string pn,.int .i64 pz,.slice po pl.length jr] 71));have qO:=ah (qO.out _ rfl);obtain ⟨hpz1,hpz2⟩:=oo.out _ rfl;have hso:=HSO.out _ rfl;rw [hso] at HUN;have pO:=ah (show FF=if jc ⟨un,up,uu,ua⟩ pz then 1 else if CH then 12 else 0 by rw [eZ.out,hso];rfl);have qQ:=ah (show jc ⟨un,up,uu,ua⟩ pz=(!bW uu 1 64||!bW ua 1 512||decide (512<ua+pz-1)) from rfl);have HBF:=ah (show jc ⟨un,up,uu,ua⟩ pz=false→(1≤uu∧uu≤64)∧(1≤ua∧ua≤512)∧ua+pz-1≤512 from fun h=>kE h);clear eZ hso oo HSO nU HU5;have eZ:=pO;clear pO;simp only at qO hpz1 hpz2 HUN;generalize jc ⟨un,up,uu,ua⟩ pz=BD at *;go_upto_region 17 with fail;go_cut [74] (fun s74 wx=>s74=.bool BD∧wx=w5.alloc (.cells #[.string pn,.int .i64 pz,.slice po pl.length jr] 71))
     case first=>
      rcases Bool.eq_false_or_eq_true (bW uu 1 64) with j0 | j0;rotate_left
      ·skip;have HV:=ah (show BD=true by rw [qQ.out];simp [j0]);go_wp2_with (first | (go_at_call 31;((with_reducible refine (aV _ _ _ _).mono ?_);rintro e w' ⟨rfl,rfl⟩)) | fail);all_goals go_meet
       all_goals exact ⟨by rw [HV.out]<;>rfl,rfl⟩
      rcases Bool.eq_false_or_eq_true (bW ua 1 512) with j1 | j1;rotate_left
      ·skip;have HV:=ah (show BD=true by rw [qQ.out];simp [j0,j1]);go_wp2_with (first | (go_at_call 31;((with_reducible refine (aV _ _ _ _).mono ?_);rintro e w' ⟨rfl,rfl⟩)) | fail);all_goals go_meet
       all_goals exact ⟨by rw [HV.out]<;>rfl,rfl⟩
      obtain ⟨j4,j5⟩:=ji j1;by_cases j2:512<ua+pz-1
      ·skip;have HV:=ah (show BD=true by rw [qQ.out];simp [j0,j1,j2]);go_wp2_with (first | (go_at_call 31;((with_reducible refine (aV _ _ _ _).mono ?_);rintro e w' ⟨rfl,rfl⟩)) | fail);all_goals go_meet
       all_goals exact ⟨by rw [HV.out]<;>rfl,rfl⟩
      ·skip;have HV:=ah (show BD=false by rw [qQ.out];simp [j0,j1];omega);have j3:decide (512<ua+pz-1)=false:=by simpa using j2
       go_wp2_with (first | (go_at_call 31;((with_reducible refine (aV _ _ _ _).mono ?_);rintro e w' ⟨rfl,rfl⟩)) | fail);all_goals go_meet
       all_goals exact ⟨by rw [HV.out]<;>rfl,rfl⟩
     case rest=>
      obtain ⟨rfl,rfl⟩:=hcut;cases BD;rotate_left
      ·have k0:=True.intro;have HE:FF=1:=by rw [eZ.out];simp [k0]
       have HV:=ah (show RES=1 by rw [gW.out,iB.out (by rw [HE];decide),HE]);clear HE;go_wp2_with fail;go_ret;exact ⟨by rw [HV.out]<;>rfl,(KC.out _ tZ.out).1⟩
      obtain ⟨⟨i1,i2⟩,⟨i3,i4⟩,i5⟩:=HBF.out rfl;have qO:=ah (qO.out rfl);have pO:=ah (show FF=if CH then 12 else 0 by rw [eZ.out];rfl);clear eZ qQ HBF;have eZ:=pO;clear pO;go_upto_region 19 with fail;go_cut [84] (fun s84 wx=>s84=.bool CH∧wx=w5.alloc (.cells #[.string pn,.int .i64 pz,.slice po pl.length jr] 71))
      case first=>
       obtain ⟨n,f,hn,hM,hU,hI⟩:=HU6.out;rcases hU uu with ⟨hf,hno⟩ | ⟨g,hf,hbg,hgm,hgl,hS⟩
       ·have hq:=hM.look false nY (t:=65) Tryz.underlying65 (oN _) (mJ Az.out);rw [hf] at hq;simp only [Option.getD_none,Bool.false_eq_true,if_false] at hq;have HV:=ah (show CH=false from HCY.out hno);clear hM hU hI hno hf;go_wp2_with (first | (go_at_call 33;((with_reducible refine (QU _ _ _ (by omega) (by omega) (by omega) (by omega)).mono ?_);rintro e w' ⟨rfl,rfl⟩)) | fail);all_goals go_meet
        all_goals exact ⟨by rw [HV.out]<;>rfl,rfl⟩
       ·have hq:=hM.look false nY (t:=65) Tryz.underlying65 (oN _) (mJ Az.out);rw [hf] at hq;simp only [Option.getD_some,Bool.false_eq_true,if_false,qm] at hq;have HFP:=ah (QT g _ ua pz _ hS hgl (by omega) (by omega) (by omega) (by omega));clear hM hU hI hf hS;go_wp2_with (first | (go_at_call 33;((with_reducible refine HFP.out.mono ?_);rintro e w' ⟨rfl,rfl⟩)) | fail);all_goals go_meet
        all_goals exact ⟨by rw [qO.out]<;>first | rfl | trivial,rfl⟩
      case rest=>
       obtain ⟨rfl,rfl⟩:=hcut;cases CH;rotate_left
       ·have k0:=True.intro;have HE:FF=12:=by rw [eZ.out];simp [k0]
        have HV:=ah (show RES=12 by rw [gW.out,iB.out (by rw [HE];decide),HE]);clear HE;go_wp2_with fail;go_ret;exact ⟨by rw [HV.out]<;>rfl,(KC.out _ tZ.out).1⟩
       have HE:FF=0:=by rw [eZ.out];rfl
       have HV:=ah (show RES=bQ (jB lib) aF (k+1) by rw [gW.out,sN.out HE]);have JV:=ah (Eu.out HE);have um:=ah (O1 w2.heap.size w2.heap.size US ⟨un,up,uu,ua⟩ pz _ HU6.out HUL.out (Nat.le_refl _) Az.out (by simpa using i3) (by omega) (by simpa using i5));simp only at um;clear HE Eu HU6;go_wp2_with fail;refine um.out.mono ?_;rintro e w7 ⟨rfl,hu7,xD⟩;have Ov:=ah (tZ.out.trans (xD.mono (by omega)));have HU7:=ah (show gN w2.heap.size w7 w2.heap.size (uw lib (aF.take (k+1))) by rw [HUN.out];exact hu7);have hz7:=xD.size;simp only [World.size_alloc] at hz7;clear hu7 xD um f0 f1 f2 f3;go_wp2_with fail;go_roundw
       case rel=>exact ⟨k+1,by omega,by first | rfl | go_num,HV,Ov,HU7,JV,by omega⟩
       case measure=>simp [intOf];omega
  ·have HV:=ah (show RES=0 by rw [gW.out,gB (jB lib) aF k (by omega)]);have nM:=ah hB;clear hB;have hkk:k=aF.length:=by omega
   subst hkk;go_wp2_with fail;go_ret;exact ⟨by rw [HV.out]<;>rfl,nM.out⟩
end Go.Proofs.YtopmdeefcjdadaaGreat
