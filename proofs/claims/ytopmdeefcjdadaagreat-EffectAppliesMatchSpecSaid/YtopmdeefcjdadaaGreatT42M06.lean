import Derived.Test.YtopmdeefcjdadaaGreatT42M00
import Derived.Test.YtopmdeefcjdadaaGreatT42M05
import Derived.WalkSpells
import Derived.Deep.QuietTactic
import Derived.BigQuiet
import Derived.Lib.Bytes
import Derived.Deep.RegionHeld3
import Derived.Deep.DeepCutAuto
import Derived.Test.YtopmdeefcjdadaaGreatShelf
set_option linter.unusedVariables false
set_option linter.unusedSimpArgs false
set_option maxRecDepth 100000
set_option maxHeartbeats 32000000
namespace Go.Proofs.YtopmdeefcjdadaaGreat
open Go.RowKit
def Px (tb:Nat):Value:=.func (.func 62) #[] #[.pointer (some ⟨tb,0,none⟩)]
def dK (nm:List UInt8) (p:Prf):Bool:=decide (p.nm=nm)
theorem Ml (pn:ByteArray) (pz:Int) (po:Option Addr) (pl pc:Nat) (nm:ByteArray) (tb:Nat) (w:World) (ht:w.cell? ⟨tb,0,none⟩=some (.string nm)) (hb:tb<w.heap.size) :
  Calls Tryz.prog 62 #[.agg #[.string pn,.int .i64 pz,.slice po pl pc],.pointer (some ⟨tb,0,none⟩)] w fun e w'=>e=.returned (.bool (decide (pn.data.toList=nm.data.toList)))∧Below w.heap.size w w':=by
 by_cases hc:pn.data.toList=nm.data.toList
 ·have h2:(pn.toList==nm.toList)=true:=by rw [Lib.toList_data,Lib.toList_data];simpa using hc
  have HV:=ah (show decide (pn.data.toList=nm.data.toList)=true by simpa using hc);clear hc;go_enter Tryz.func62,Tryz.ntmps62;go_wp2
  go_ret;exact ⟨by rw [HV.out]<;>rfl,(Below.refl _ _).alloc (Nat.le_refl _) _⟩
 ·have h2:(pn.toList==nm.toList)=false:=by rw [Lib.toList_data,Lib.toList_data];simpa using hc
  have HV:=ah (show decide (pn.data.toList=nm.data.toList)=false by simpa using hc);go_enter Tryz.func62,Tryz.ntmps62;go_wp2
  go_ret;exact ⟨by rw [HV.out]<;>rfl,(Below.refl _ _).alloc (Nat.le_refl _) _⟩
theorem IK (args:Array Value) (W:World):Sem.run Tryz.prog (callFunc 62 args) W=.ok (.enter 62 args) W:=by simp [go_sem]
theorem Mk (v:Value) (l:List Prf) (nm:ByteArray) (tb:Nat) (w:World) (h:jD w.heap.size w v l) (ht:w.cell? ⟨tb,0,none⟩=some (.string nm)) (hb:tb<w.heap.size) :
  Calls Tryz.prog 35 #[v,Px tb] w fun e w'=>e=.returned (.int .i64 (fQ (dK nm.data.toList) l 0))∧Below w.heap.size w w':=by
 have HG:=ah (jD.get h);obtain ⟨lv,hlv,hcs,_⟩:=h;obtain ⟨ao,cap,rfl,_⟩:=aW.shape hcs;have hm:=aW.len hcs;rw [show lv.length=l.length by rw [←hlv];simp] at *;clear hcs hlv;unfold maxLen at hm;have CF:=ah (fun (pn:ByteArray) (pz:Int) (po:Option Addr) (pl pc:Nat) W (hB:Below w.heap.size w W)=>Ml pn pz po pl pc nm tb W ((hB.cell (p:=⟨tb,0,none⟩) hb).trans ht) (Nat.lt_of_lt_of_le hb hB.size));have hcf:=IK;have HC:=ah (show fQ (dK nm.data.toList) l 0=fQ (dK nm.data.toList) (l.drop 0) 0 by simp);generalize fQ (dK nm.data.toList) l 0=RES at *;clear ht;unfold Px;go_enter Tryz.func35,Tryz.ntmps35;go_wp2_with fail;go_loopw [8] (fun i wr=>∃k:Nat,k≤l.length∧i=.int .i64 k∧Hid (RES=fQ (dK nm.data.toList) (l.drop k) k)∧Hid (Below w.heap.size w wr)) (fun i _=>l.length-(intOf i).toNat)
 case atStart=>exact ⟨0,Nat.zero_le _,rfl,HC,ah (Below.refl _ _)⟩
 case round=>
  obtain ⟨k,hk,rfl,HR,bA⟩:=hrel;by_cases hlt:k<l.length
  ·obtain ⟨b,off,cap',hsl,hbb,_,hc⟩:=HG.out (by omega);injection hsl with hs1 hs2 hs3;subst hs1 hs3;obtain ⟨pv,hpv,hcc⟩:=hc k hlt;obtain ⟨d0,d1,d2⟩:=hcc wr bA.out;have hbr:b<wr.heap.size:=by have:=bA.out.size;omega
   have HY:=ah (oV (dK nm.data.toList) l k hlt);have HN:=ah (tu (dK nm.data.toList) l k hlt);have HT:=ah (show dK nm.data.toList l[k]=decide (l[k].name.data.toList=nm.data.toList) from rfl);obtain ⟨lv,hlv,hcs,_⟩:=hpv;obtain ⟨po,jr,rfl,_⟩:=aW.shape hcs;clear hc hcc hcs hlv;generalize dK nm.data.toList l[k]=T at *;generalize kC:l[k]=rk at *;clear kC;obtain ⟨pn,pz,pl⟩:=rk;simp only at *;have CX:=ah (CF.out pn pz po lv.length jr _ bA.out);rw [←HT.out] at CX;cases T
   ·have HV:=ah (HR.out.trans (HN.out rfl));go_wp2_with fail;refine CX.out.mono ?_;rintro e w1 ⟨rfl,hb1⟩;have HB2:=ah (bA.out.trans (hb1.mono bA.out.size));clear hb1;go_wp2_with fail;go_roundw
    case rel=>exact ⟨k+1,by omega,by go_num,HV,HB2⟩
    case measure=>simp [intOf];omega
   ·have HV:=ah (HR.out.trans (HY.out rfl));go_wp2_with fail;refine CX.out.mono ?_;rintro e w1 ⟨rfl,hb1⟩;have HB2:=ah (bA.out.trans (hb1.mono bA.out.size));clear hb1;go_wp2_with fail;go_ret;exact ⟨by rw [HV.out]<;>rfl,HB2.out⟩
  ·have HV:=ah (show RES=-1 by rw [HR.out,oW _ l k (by omega)]);have hkk:k=l.length:=by omega
   subst hkk;go_wp2_with fail;go_ret;exact ⟨by rw [HV.out]<;>rfl,bA.out⟩
def Bo (B:Nat) (w:World) (o:Option Prf) (v:Value):Prop:=
 match o with
 | some p=>∃pv,v=.agg #[.string p.name,.int .i64 p.size,pv]∧jI B w pv p.iY
 | none=>v=.agg #[.string ⟨#[]⟩,.int .i64 0,.slice none 0 0]
theorem Bo.below {B:Nat} {w w':World} {o:Option Prf} {v:Value} (h:Bo B w o v) (hb:Below B w w'):Bo B w' o v:=by
 cases o with
 | none=>exact h
 | some p=>
  obtain ⟨pv,h1,h2⟩:=h;exact ⟨pv,h1,h2.below hb⟩
theorem Bo.more {B B':Nat} {w:World} {o:Option Prf} {v:Value} (h:Bo B w o v) (hB:B≤B'):Bo B' w o v:=by
 cases o with
 | none=>exact h
 | some p=>
  obtain ⟨pv,h1,h2⟩:=h;exact ⟨pv,h1,h2.more hB⟩
theorem Fw (v:Value) (l:List Prf) (nm:ByteArray) (w:World) (h:jD w.heap.size w v l) :
  Calls Tryz.prog 32 #[v,.string nm] w fun e w'=>∃pv,e=.returned (.tuple #[pv,.bool (cZ l nm.data.toList).isSome])∧Bo w.heap.size w' (cZ l nm.data.toList) pv∧Below w.heap.size w w':=by
 have HG:=ah (jD.get h);have yT:=ah (lC (dK nm.data.toList) l);have HPO:=ah (show cZ l nm.data.toList=l.find? (dK nm.data.toList) from rfl);have HCI:=ah (fun W (hW:Below w.heap.size w W) tb (ht:W.cell? ⟨tb,0,none⟩=some (.string nm)) (hb:tb<W.heap.size)=>Mk v l nm tb W ((h.below hW).more hW.size) ht hb);obtain ⟨lv,hlv,hcs,_⟩:=h;obtain ⟨ao,cap,rfl,_⟩:=aW.shape hcs;have hm:=aW.len hcs;rw [show lv.length=l.length by rw [←hlv];simp] at *;clear hcs hlv;unfold maxLen at hm;generalize fQ (dK nm.data.toList) l 0=IX at *;rw [HPO.out];generalize l.find? (dK nm.data.toList)=RES at *;have HX:=ah (HCI.out ((w.alloc (.cells #[.string nm] 9)).alloc (.cells #[.string ⟨#[]⟩,.int .i64 0,.slice none 0 0] 71)) (((Below.refl _ _).alloc (Nat.le_refl _) _).alloc (by simp) _) w.heap.size (by simp [go_sem]) (by simp;omega));unfold Px at HX;clear HCI HPO;go_enter Tryz.func32,Tryz.ntmps32;go_wp2_with fail;refine HX.out.mono ?_;rintro e w1 ⟨rfl,hb1⟩;have HB1:=ah ((((Below.refl w.heap.size w).alloc (Nat.le_refl _) (.cells #[.string nm] 9)).alloc (by simp) (.cells #[.string ⟨#[]⟩,.int .i64 0,.slice none 0 0] 71)).trans (hb1.mono (by simp;omega)));have hz1:=hb1.size;simp only [World.size_alloc] at hz1;have c0:w1.cell? ⟨w.heap.size+1,0,none⟩=some (.string ⟨#[]⟩):=(hb1.cell (p:=⟨w.heap.size+1,0,none⟩) (by simp)).trans (by simp [go_sem]);have c1:w1.cell? ⟨w.heap.size+1,1,none⟩=some (.int .i64 0):=(hb1.cell (p:=⟨w.heap.size+1,1,none⟩) (by simp)).trans (by simp [go_sem]);have c2:w1.cell? ⟨w.heap.size+1,2,none⟩=some (.slice none 0 0):=(hb1.cell (p:=⟨w.heap.size+1,2,none⟩) (by simp)).trans (by simp [go_sem]);have f0:w1.frozen? ⟨w.heap.size+1,0,none⟩=false:=(hb1.frozen (p:=⟨w.heap.size+1,0,none⟩) (by simp)).trans (by simp [go_sem]);have f1:w1.frozen? ⟨w.heap.size+1,1,none⟩=false:=(hb1.frozen (p:=⟨w.heap.size+1,1,none⟩) (by simp)).trans (by simp [go_sem]);have f2:w1.frozen? ⟨w.heap.size+1,2,none⟩=false:=(hb1.frozen (p:=⟨w.heap.size+1,2,none⟩) (by simp)).trans (by simp [go_sem]);have GY:=ah (show ∀u0 u1 u2,Below w.heap.size w (((w1.setCell ⟨w.heap.size+1,0,none⟩ u0).setCell ⟨w.heap.size+1,1,none⟩ u1).setCell ⟨w.heap.size+1,2,none⟩ u2) from fun u0 u1 u2=>((HB1.out.setCell (p:=⟨w.heap.size+1,0,none⟩) (by simp) u0).setCell (p:=⟨w.heap.size+1,1,none⟩) (by simp) u1).setCell (p:=⟨w.heap.size+1,2,none⟩) (by simp) u2);have KST:=ah (show ∀u0 u1 u2 {v:Value} {l:List jy},jI w.heap.size w1 v l→jI w.heap.size (((w1.setCell ⟨w.heap.size+1,0,none⟩ u0).setCell ⟨w.heap.size+1,1,none⟩ u1).setCell ⟨w.heap.size+1,2,none⟩ u2) v l from fun u0 u1 u2 _ _ h=>h.below ((((Below.refl w.heap.size w1).setCell (p:=⟨w.heap.size+1,0,none⟩) (by simp) u0).setCell (p:=⟨w.heap.size+1,1,none⟩) (by simp) u1).setCell (p:=⟨w.heap.size+1,2,none⟩) (by simp) u2));clear hb1 HX;rcases yT.out with ⟨rfl,rfl⟩ | ⟨k,hk,rfl,rfl⟩
 ·go_wp2_with fail;exact bodyPost_ret (v:=.tuple #[.agg #[.string ⟨#[]⟩,.int .i64 0,.slice none 0 0],.bool false]) (by simp [results,Tryz.results32,go_sem,c0,c1,c2]) rfl ⟨_,rfl,rfl,GY.out _ _ _⟩
 ·obtain ⟨b,off,cap',hsl,hbb,_,hc⟩:=HG.out (by omega);injection hsl with hs1 hs2 hs3;subst hs1 hs3;obtain ⟨pv,hpv,hcc⟩:=hc k hk;have NW:=ah (hpv.below HB1.out);obtain ⟨d0,d1,d2⟩:=hcc w1 HB1.out;have hbr:b<w1.heap.size:=by omega
  obtain ⟨lv,hlv,hcs,_⟩:=hpv;obtain ⟨po,jr,rfl,_⟩:=aW.shape hcs;rw [show lv.length=l[k].iY.length by rw [←hlv];simp] at *;clear hc hcc hcs hlv HG yT;generalize kC:l[k]=rk at *;have HRK:=ah kC;clear kC;obtain ⟨pn,pz,pl⟩:=rk;simp only at *;go_wp2_with fail;exact bodyPost_ret (v:=.tuple #[.agg #[.string pn,.int .i64 pz,.slice po pl.length jr],.bool true]) (by simp [results,Tryz.results32,go_sem,c0,c1,c2]) rfl ⟨_,rfl,by rw [HRK.out];exact ⟨_,rfl,KST.out _ _ _ NW.out⟩,GY.out _ _ _⟩
theorem fC {B:Nat} {w W:World} (h:Below B w W) (n:Nat):Below B w (W.drewN n):=⟨h.os,h.tape,h.output,h.size,h.block⟩
theorem Ec (v:Value) (l:List uj) (w:World) (h:nL w.heap.size w v l) (hf:∀r∈l,Au r) :
  Calls Tryz.prog 94 #[v] w fun e w'=>e=.returned (.int .i64 (gM l))∧Below w.heap.size w w':=by
 have hm:=aW.len h;unfold maxLen at hm;have HG:=ah (nL.get h);have HF:=ah hf;obtain ⟨ao,cap,rfl,_⟩:=aW.shape h;clear h hf;have uV:=ah (show gM l=if 30<l.length then 2 else bQ qZ l 0 from rfl);generalize gM l=RES at *;go_enter Tryz.func94,Tryz.ntmps94;by_cases Jm:30<l.length
 ·have HV:=ah (show RES=2 by rw [uV.out,if_pos Jm]);go_wp2_with fail;go_ret;exact ⟨by rw [HV.out]<;>rfl,Below.refl _ _⟩
 have HC:=ah (show RES=bQ qZ l 0 by rw [uV.out,if_neg Jm]);have h31:l.length≤30:=by omega
 clear uV Jm;have hmm:=@run_makeMap Tryz.prog;go_wp2_with fail;clear hmm;go_loopw [12] (fun i wr=>∃k:Nat,k≤l.length∧i=.int .i64 k∧Hid (RES=bQ qZ l k)∧Hid (Below w.heap.size w wr)∧Hid (dH wr Tryz.prog 9 4 w.heap.size k ((l.take k).map (fun y=>Lit.string y.nm)))∧w.heap.size<wr.heap.size) (fun i _=>l.length-(intOf i).toNat)
 case atStart=>exact ⟨0,Nat.zero_le _,rfl,HC,ah ((Below.refl _ _).alloc (Nat.le_refl _) _),ah (by simpa using mR w _ _ _),by simp⟩
 case round=>
  obtain ⟨k,hk,rfl,gW,bA,AB,Ho⟩:=hrel;by_cases hlt:k<l.length
  ·obtain ⟨b,off,cap',hsl,hb,_,hc⟩:=HG.out (by omega);injection hsl with hs1 hs2 hs3;subst hs1 hs3;obtain ⟨d0,d1,d2⟩:=hc k hlt wr bA.out;have vS:=ah (fun (h0:0<k)=>hc (k-1) (by omega));have hbr:b<wr.heap.size:=by have:=bA.out.size;omega
   obtain ⟨g0,g1,hns⟩:=HF.out _ (List.getElem_mem hlt);have sN:=ah (fD qZ l k hlt);have iB:=ah (gD qZ l k hlt);have eZ:=ah (show qZ (l.take k) l[k]=if uG l[k] then 1 else if ni (l.take k) l[k] then 7 else if !eU l[k].nm then 5 else if l[k].nm∈(l.take k).map uj.nm then 6 else 0 from rfl);have HKEY:=ah (DY hns);have Ey:=ah (zY uj.nm (l.take k) l[k].nm);have um:=ah (wL uj.nm l k hlt);have HKV:=ah (show ∀o,dH (wr.alloc o) Tryz.prog 9 4 w.heap.size k ((l.take k).map (fun y=>Lit.string y.nm)) from fun o=>AB.out.kept (World.grownBy_alloc _ _ none) (by simp));have qK:=ah (show k=0→ni (l.take k) l[k]=false from fun h0=>by subst h0;rfl);have yX:=ah (show ∀h0:0<k,ni (l.take k) l[k]=decide (l[k].low≤(l[k-1]'(by omega)).aD) from fun h0=>by unfold ni;rw [oU l k hlt h0];rfl);have qQ:=ah (show uG l[k]=(!bW l[k].low 0 65535||!bW l[k].aD 0 65535||decide (l[k].aD<l[k].low)) from rfl);generalize ni (l.take k) l[k]=LW at *;generalize uG l[k]=BD at *;generalize qZ (l.take k) l[k]=FF at *;have hnm:l[k].nm=l[k].name.data.toList:=rfl;rw [hnm] at eZ Ey um;clear hnm hc g0 g1;generalize (l.take k).map uj.nm=SN at *;generalize (l.take k).map (fun y=>Lit.string y.nm)=S at *;generalize kC:l[k]=rk at *;clear kC;obtain ⟨EB,Kl,vX⟩:=rk;simp only at d0 d1 d2 hns;go_upto_region 7 with fail;have HKA:=ah (HKV.out (.cells #[.int .i64 EB,.int .i64 Kl,.string vX] 161));have Ou:=ah (bA.out.alloc (Nat.le_of_lt Ho) (.cells #[.int .i64 EB,.int .i64 Kl,.string vX] 161));go_cut [17] (fun s17 wx=>s17=.bool BD∧wx=wr.alloc (.cells #[.int .i64 EB,.int .i64 Kl,.string vX] 161))
   case first=>
    rcases Bool.eq_false_or_eq_true (bW EB 0 65535) with k0 | k0;rotate_left
    ·skip;have HV:=ah (show BD=true by rw [qQ.out];simp [k0]);go_wp2_with (first | (go_at_call 93;((with_reducible refine (dY _ _).mono ?_);rintro e w' ⟨rfl,rfl⟩)) | (go_at_call 92;((with_reducible refine (dX _ _ hns).mono ?_);rintro e w' ⟨rfl,rfl⟩)) | fail);all_goals go_meet
     all_goals exact ⟨by rw [HV.out]<;>rfl,rfl⟩
    rcases Bool.eq_false_or_eq_true (bW Kl 0 65535) with k1 | k1;rotate_left
    ·skip;have HV:=ah (show BD=true by rw [qQ.out];simp [k0,k1]);go_wp2_with (first | (go_at_call 93;((with_reducible refine (dY _ _).mono ?_);rintro e w' ⟨rfl,rfl⟩)) | (go_at_call 92;((with_reducible refine (dX _ _ hns).mono ?_);rintro e w' ⟨rfl,rfl⟩)) | fail);all_goals go_meet
     all_goals exact ⟨by rw [HV.out]<;>rfl,rfl⟩
    by_cases k2:Kl<EB
    ·skip;have HV:=ah (show BD=true by rw [qQ.out];simp [k0,k1,k2]);go_wp2_with (first | (go_at_call 93;((with_reducible refine (dY _ _).mono ?_);rintro e w' ⟨rfl,rfl⟩)) | (go_at_call 92;((with_reducible refine (dX _ _ hns).mono ?_);rintro e w' ⟨rfl,rfl⟩)) | fail);all_goals go_meet
     all_goals exact ⟨by rw [HV.out]<;>rfl,rfl⟩
    ·skip;have HV:=ah (show BD=false by rw [qQ.out];simp [k0,k1];omega);have k3:decide (Kl<EB)=false:=by simpa using k2
     go_wp2_with (first | (go_at_call 93;((with_reducible refine (dY _ _).mono ?_);rintro e w' ⟨rfl,rfl⟩)) | (go_at_call 92;((with_reducible refine (dX _ _ hns).mono ?_);rintro e w' ⟨rfl,rfl⟩)) | fail);all_goals go_meet
     all_goals exact ⟨by rw [HV.out]<;>rfl,rfl⟩
   case rest=>
    obtain ⟨rfl,rfl⟩:=hcut;cases BD;rotate_left
    ·have HE:FF=1:=by rw [eZ.out];rfl
     have HV:=ah (show RES=1 by rw [gW.out,iB.out (by rw [HE];decide),HE]);clear HE;go_wp2_with fail;go_ret;exact ⟨by rw [HV.out]<;>rfl,Ou.out⟩
    have JX:=ah (show FF=if LW then 7 else if !eU vX.data.toList then 5 else if vX.data.toList∈SN then 6 else 0 by rw [eZ.out];rfl);clear eZ qQ;go_upto_region 9 with fail;go_cut [35] (fun s35 wx=>s35=.bool LW∧Below wx.heap.size (wr.alloc (.cells #[.int .i64 EB,.int .i64 Kl,.string vX] 161)) wx∧wx.heap.size=wr.heap.size+1)
    case first=>
     by_cases h0:k=0
     ·subst h0;have HV:=ah (qK.out rfl);clear vS yX qK;go_quiet (fail)
      go_wp2_with fail;all_goals go_meet
      all_goals exact ⟨by rw [HV.out]<;>rfl,fC (Below.refl _ _) _,by simp⟩
     ·obtain ⟨j,rfl⟩:∃j,k=j+1:=⟨k-1,by omega⟩;have rD:=ah (yX.out (by omega));obtain ⟨_,d4,_⟩:=vS.out (by omega) wr bA.out;clear vS yX qK;simp only [Nat.add_sub_cancel] at d4;have hlow:(l[j+1-1]'(by omega))=l[j]:=by simp
      rw [hlow] at rD;clear hlow;generalize l[j]=rj at *;obtain ⟨jl,jh,jn⟩:=rj;simp only at d4;have hji:((j+1:Nat):Int)-1=(j:Int):=by omega
      by_cases hle:EB≤jh
      ·skip;have HV:=ah (show LW=true by rw [rD.out];simpa using hle);clear rD;go_quiet (fail)
       go_wp2_with fail;all_goals go_meet
       all_goals exact ⟨by rw [HV.out]<;>rfl,fC (Below.refl _ _) _,by simp⟩
      ·skip;have HV:=ah (show LW=false by rw [rD.out];simpa using hle);clear rD;have Qw:decide (EB≤jh)=false:=by simpa using hle
       go_quiet (fail)
       go_wp2_with fail;all_goals go_meet
       all_goals exact ⟨by rw [HV.out]<;>rfl,fC (Below.refl _ _) _,by simp⟩
    case rest=>
     obtain ⟨rfl,hb3,hz3⟩:=hcut;have kr:=ah (Ou.out.trans (hb3.mono (by omega)));have HKW:=ah (HKA.out.below hb3 (by omega));have e2:wc.cell? ⟨wr.heap.size,2,none⟩=some (.string vX):=(hb3.cell (p:=⟨wr.heap.size,2,none⟩) (by simp;omega)).trans (by simp [go_sem]);have hwc:w.heap.size<wc.heap.size:=by omega
     clear hb3 d0 d1 d2 yX qK vS HKA Ou HKV bA AB;cases LW;rotate_left
     ·skip;have HE:FF=7:=by rw [JX.out];rfl
      have HV:=ah (show RES=7 by rw [gW.out,iB.out (by rw [HE];decide),HE]);clear HE;go_wp2_with fail;go_ret;exact ⟨by rw [HV.out]<;>rfl,kr.out⟩
     rcases Bool.eq_false_or_eq_true (eU vX.data.toList) with k0 | k0;rotate_left
     ·skip;have HE:FF=5:=by rw [JX.out];simp [k0]
      have HV:=ah (show RES=5 by rw [gW.out,iB.out (by rw [HE];decide),HE]);clear HE;go_wp2_with (first | (go_at_call 93;((with_reducible refine (dY _ _).mono ?_);rintro e w' ⟨rfl,rfl⟩)) | (go_at_call 92;((with_reducible refine (dX _ _ hns).mono ?_);rintro e w' ⟨rfl,rfl⟩)) | fail);go_ret;exact ⟨by rw [HV.out]<;>rfl,kr.out⟩
     by_cases hin:vX.data.toList∈SN
     ·skip;have HE:FF=6:=by rw [JX.out];simp [k0,hin]
      have HV:=ah (show RES=6 by rw [gW.out,iB.out (by rw [HE];decide),HE]);clear HE;go_wp2_with (first | (at_lookup;refine jT _ rfl _ _ 112 rfl 9 4 ug Tryz.underlying112 Tryz.underlying4 (oq _) w.heap.size _ S rfl HKW.out (.string vX) (.string vX.data.toList) rfl HKEY.out ?_;intro c hc;obtain rfl:c=true:=hc.2 (Ey.out.2 hin);clear hc) | (first | (go_at_call 93;((with_reducible refine (dY _ _).mono ?_);rintro e w' ⟨rfl,rfl⟩)) | (go_at_call 92;((with_reducible refine (dX _ _ hns).mono ?_);rintro e w' ⟨rfl,rfl⟩)) | fail));go_ret;exact ⟨by rw [HV.out]<;>rfl,kr.out⟩
     ·have HE:FF=0:=by rw [JX.out];simp [k0,hin]
      have HV:=ah (show RES=bQ qZ l (k+1) by rw [gW.out,sN.out HE]);clear HE;go_wp2_with (first | (at_lookup;refine jT _ rfl _ _ 112 rfl 9 4 ug Tryz.underlying112 Tryz.underlying4 (oq _) w.heap.size _ S rfl HKW.out (.string vX) (.string vX.data.toList) rfl HKEY.out ?_;intro c hc;obtain rfl:c=false:=(by cases c;rfl;exact absurd (Ey.out.1 (hc.1 rfl)) hin);clear hc) | (at_mapUpdate;refine lZ _ rfl _ _ _ 112 rfl 9 4 ug Tryz.underlying112 Tryz.underlying4 w.heap.size _ S rfl HKW.out (by unfold maxLen;omega) (.string vX) (.string vX.data.toList) rfl rfl HKEY.out ?_;intro w3 hown3 hgrow3) | (first | (go_at_call 93;((with_reducible refine (dY _ _).mono ?_);rintro e w' ⟨rfl,rfl⟩)) | (go_at_call 92;((with_reducible refine (dX _ _ hns).mono ?_);rintro e w' ⟨rfl,rfl⟩)) | fail));go_roundw
      case rel=>exact ⟨k+1,by omega,by first | rfl | go_num,HV,ah (kr.out.grown hgrow3 (by omega) (fun j hj=>by cases hj;omega)),ah (by rw [um.out];exact hown3),hown3.lt⟩
      case measure=>simp [intOf];omega
  ·have HV:=ah (show RES=0 by rw [gW.out,gB qZ l k (by omega)]);have hkk:k=l.length:=by omega
   subst hkk;go_wp2_with fail;go_ret;exact ⟨by rw [HV.out]<;>rfl,bA.out⟩
theorem Ea (g:Nat) (zs:List Int) (x:Int) (w:World) (hl:zs.length≤100) (hc:∀j (h:j<zs.length),w.cell? ⟨g,j,none⟩=some (.int .i64 zs[j])) :
  Calls Tryz.prog 115 #[.slice (some ⟨g,0,none⟩) zs.length zs.length,.int .i64 x] w fun e w'=>e=.returned (.bool (decide (x∈zs)))∧w=w':=by
 refine (Tryz.slices_Contains_int g 0 zs.length zs.length zs x w (Nat.le_refl _) (by omega) (fun j hj=>?_)).mono ?_
 ·have:=hc j hj;rw [List.getD_eq_getElem?_getD,List.getElem?_eq_getElem hj];simpa using this
 ·rintro e w' ⟨rfl,rfl⟩;rw [List.take_length];exact ⟨by simp,rfl⟩
theorem zD (p:jy) (ro:Option Addr) (rn bD:Nat) (w:World) (hf:0≤p.fine) :
  Calls Tryz.prog 114 #[.agg #[.string p.name,.int .i64 p.Oh,.int .i64 p.sl,.int .i64 p.fine,.int .i64 p.dflt,.bool p.snap,.slice ro rn bD]] w fun e w'=>
   ∃g,e=.returned (.slice (some ⟨g,0,none⟩) (iE p).length (iE p).length)∧g<w'.heap.size∧w.heap.size≤g∧(∀j (h:j<(iE p).length),w'.cell? ⟨g,j,none⟩=some (.int .i64 (iE p)[j]))∧Below w.heap.size w w':=by
 obtain ⟨xn,xg,xs,xf,xd,xb,xr⟩:=p;simp only at *;by_cases h0:xf=0
 ·have hs:iE ⟨xn,xg,xs,xf,xd,xb,xr⟩=[xs]:=by simp [iE,h0]
  rw [hs];clear hs;subst h0;go_enter Tryz.func114,Tryz.ntmps114;go_wp2_with fail;go_ret;refine ⟨w.heap.size+1,rfl,by simp,by omega,?_,((Below.refl _ _).alloc (Nat.le_refl _) _).alloc (by simp) _⟩;intro j h;simp at h;subst h;simp [go_sem]
 ·have hs:iE ⟨xn,xg,xs,xf,xd,xb,xr⟩=[xs,xf]:=by simp [iE];omega
  rw [hs];clear hs;have h1:(xf==0)=false:=by simpa using h0
  go_enter Tryz.func114,Tryz.ntmps114;go_wp2_with fail;go_ret;refine ⟨w.heap.size+1,rfl,by simp,by omega,?_,((Below.refl _ _).alloc (Nat.le_refl _) _).alloc (by simp) _⟩;intro j h
  match j,h with
  | 0,_=>simp [go_sem]
  | 1,_=>simp [go_sem]
theorem uZ (v:Value) (l:List Prf) (nm:ByteArray) (w:World) (h:jD w.heap.size w v l) :
  Calls Tryz.prog 57 #[v,.string nm] w fun e w'=>∃pv,e=.returned (.tuple #[pv,.bool (cZ l nm.data.toList).isSome])∧Bo w.heap.size w' (cZ l nm.data.toList) pv∧Below w.heap.size w w':=by
 have HG:=ah (jD.get h);obtain ⟨ao,cap,rfl⟩:=iH h
 have hm:l.length≤9223372036854775807:=by
  by_cases c:0<l.length
  ·obtain ⟨_,_,_,_,_,hm,_⟩:=jD.get h c;unfold maxLen at hm;exact hm
  ·omega
 have HS:=ah (lC (dK nm.data.toList) l)
 have yT:=ah (show (fQ (dK nm.data.toList) l 0=-1→cZ l nm.data.toList=none)∧∀(k:Nat) (h:k<l.length),fQ (dK nm.data.toList) l 0=(k:Int)→cZ l nm.data.toList=some l[k] from by
  rcases HS.out with ⟨h1,h2⟩ | ⟨k,hk,h1,h2⟩
  ·exact ⟨fun _=>h2,fun k hk h=>by rw [h1] at h;omega⟩
  ·refine ⟨fun h=>by rw [h1] at h;omega,fun j hj h=>?_⟩;rw [h1] at h;have:j=k:=by omega
   subst this;exact h2)
 have HC:=ah (show fQ (dK nm.data.toList) l 0=fQ (dK nm.data.toList) (l.drop 0) 0 by simp);generalize fQ (dK nm.data.toList) l 0=IX at *;generalize hPO:cZ l nm.data.toList=PO at *;clear hPO HS h;go_enter Tryz.func57,Tryz.ntmps57;go_wp2_with fail;go_loopw [10] (fun i wr=>∃k:Nat,k≤l.length∧i=.int .i64 k∧Hid (IX=fQ (dK nm.data.toList) (l.drop k) k)∧Hid (Below (w.heap.size+1) (w.alloc (.cells #[.string ⟨#[]⟩,.int .i64 0,.slice none 0 0] 71)) wr)) (fun i _=>l.length-(intOf i).toNat)
 case atStart=>exact ⟨0,Nat.zero_le _,rfl,HC,ah (Below.refl _ _)⟩
 case round=>
  obtain ⟨k,hk,rfl,HR,bA⟩:=hrel;have Oc:=bA.out.size;simp only [World.size_alloc] at Oc;have Gf:Below w.heap.size w wr:=((Below.refl _ _).alloc (Nat.le_refl _) _).trans (bA.out.mono (by omega));have z0:wr.cell? ⟨w.heap.size,0,none⟩=some (.string ⟨#[]⟩):=(bA.out.cell (p:=⟨w.heap.size,0,none⟩) (by simp)).trans (by simp [go_sem]);have z1:wr.cell? ⟨w.heap.size,1,none⟩=some (.int .i64 0):=(bA.out.cell (p:=⟨w.heap.size,1,none⟩) (by simp)).trans (by simp [go_sem]);have z2:wr.cell? ⟨w.heap.size,2,none⟩=some (.slice none 0 0):=(bA.out.cell (p:=⟨w.heap.size,2,none⟩) (by simp)).trans (by simp [go_sem]);have y0:wr.frozen? ⟨w.heap.size,0,none⟩=false:=(bA.out.frozen (p:=⟨w.heap.size,0,none⟩) (by simp)).trans (by simp [go_sem]);have y1:wr.frozen? ⟨w.heap.size,1,none⟩=false:=(bA.out.frozen (p:=⟨w.heap.size,1,none⟩) (by simp)).trans (by simp [go_sem]);have y2:wr.frozen? ⟨w.heap.size,2,none⟩=false:=(bA.out.frozen (p:=⟨w.heap.size,2,none⟩) (by simp)).trans (by simp [go_sem]);have hwr:w.heap.size<wr.heap.size:=by omega
  have GY:=ah (show ∀W,Below w.heap.size w W→∀u0 u1 u2,Below w.heap.size w (((W.setCell ⟨w.heap.size,0,none⟩ u0).setCell ⟨w.heap.size,1,none⟩ u1).setCell ⟨w.heap.size,2,none⟩ u2) from fun W hW u0 u1 u2=>((hW.setCell (p:=⟨w.heap.size,0,none⟩) (by simp) u0).setCell (p:=⟨w.heap.size,1,none⟩) (by simp) u1).setCell (p:=⟨w.heap.size,2,none⟩) (by simp) u2);by_cases hlt:k<l.length
  ·obtain ⟨b,off,cap',hsl,hbb,_,hc⟩:=HG.out (by omega);injection hsl with hs1 hs2 hs3;subst hs1 hs3;obtain ⟨pv,hpv,hcc⟩:=hc k hlt;obtain ⟨d0,d1,d2⟩:=hcc wr Gf;have NW:=ah hpv;have hbr:b<wr.heap.size:=by omega
   have HY:=ah (oV (dK nm.data.toList) l k hlt);have HN:=ah (tu (dK nm.data.toList) l k hlt);have HT:=ah (show dK nm.data.toList l[k]=decide (l[k].name.data.toList=nm.data.toList) from rfl);have HPS:=ah (yT.out.2 k hlt);obtain ⟨po,jr,rfl⟩:=gQ hpv;have nM:=ah Gf;clear hc hcc hpv yT Gf;generalize dK nm.data.toList l[k]=T at *;generalize kC:l[k]=rk at *;clear kC;obtain ⟨pn,pz,pl⟩:=rk;simp only at *;by_cases he:pn.data.toList=nm.data.toList
   ·have h2:(pn.toList==nm.toList)=true:=by rw [Lib.toList_data,Lib.toList_data];simpa using he
    have HV:=ah (HPS.out (HR.out.trans (HY.out (by rw [HT.out];simpa using he))));clear he;have yC:PO=some ⟨pn,pz,pl⟩:=HV.out;go_wp2_with fail;exact bodyPost_ret (v:=.tuple #[.agg #[.string pn,.int .i64 pz,.slice po pl.length jr],.bool true]) (by simp [results,Tryz.results57,go_sem,z0,z1,z2,hwr]) rfl ⟨_,by rw [HV.out]<;>rfl,by rw [HV.out];exact ⟨_,rfl,NW.out.below ((GY.out _ nM.out _ _ _).alloc (by simp;omega) _)⟩,(GY.out _ nM.out _ _ _).alloc (by simp;omega) _⟩
   ·have h2:(pn.toList==nm.toList)=false:=by rw [Lib.toList_data,Lib.toList_data];simpa using he
    have HV:=ah (HR.out.trans (HN.out (by rw [HT.out];simpa using he)));clear he;have vV:=ah (bA.out.alloc (by omega) (.cells #[.string pn,.int .i64 pz,.slice po pl.length jr] 71));go_wp2_with fail;go_roundw
    case rel=>exact ⟨k+1,by omega,by go_num,HV,vV⟩
    case measure=>simp [intOf];omega
  ·have HV:=ah (yT.out.1 (by rw [HR.out,oW _ l k (by omega)]));have nM:=ah Gf;clear Gf;have hkk:k=l.length:=by omega
   subst hkk;go_wp2_with fail;exact bodyPost_ret (v:=.tuple #[.agg #[.string ⟨#[]⟩,.int .i64 0,.slice none 0 0],.bool false]) (by simp [results,Tryz.results57,go_sem,z0,z1,z2]) rfl ⟨_,by rw [HV.out]<;>rfl,by rw [HV.out];rfl,GY.out _ nM.out _ _ _⟩
theorem BM (lo uo:Option Addr) (dU ulen dR:Nat) (lib:List Prf) (u:gX) (w:World) (h:jD w.heap.size w (.slice lo lib.length dU) lib) (h1:-100000≤u.addr) (h2:u.addr≤100000) (h3:-100000≤sizeOf' lib u) (h4:sizeOf' lib u≤100000) :
  Calls Tryz.prog 58 #[.agg #[.slice lo lib.length dU,.slice uo ulen dR],.agg #[.int .i64 u.num,.string u.zQ,.int .i64 u.univ,.int .i64 u.addr]] w fun e w'=>e=.returned (.int .i64 (lastOf lib u))∧Below w.heap.size w w':=by
 obtain ⟨un,up,uu,ua⟩:=u;simp only at *;have HV:=ah (show lastOf lib ⟨un,up,uu,ua⟩=ua+sizeOf' lib ⟨un,up,uu,ua⟩-1 from rfl);have JR:=ah (show sizeOf' lib ⟨un,up,uu,ua⟩=((cZ lib up.data.toList).map Prf.size).getD 0 from rfl);have HP:=ah (uZ _ lib up ((w.alloc (.cells #[.slice lo lib.length dU,.slice uo ulen dR] 25)).alloc (.cells #[.int .i64 un,.string up,.int .i64 uu,.int .i64 ua] 67)) ((h.below (((Below.refl _ _).alloc (Nat.le_refl _) _).alloc (by simp) _)).more (by simp;omega)));generalize lastOf lib ⟨un,up,uu,ua⟩=RES at *;generalize sizeOf' lib ⟨un,up,uu,ua⟩=SZ at *;clear h;go_enter Tryz.func58,Tryz.ntmps58;go_wp2_with fail;refine HP.out.mono ?_;rintro e w1 ⟨pv,rfl,hpv,hb1⟩;have hz1:=hb1.size;simp only [World.size_alloc] at hz1;have c3:w1.cell? ⟨w.heap.size+1,3,none⟩=some (.int .i64 ua):=(hb1.cell (p:=⟨w.heap.size+1,3,none⟩) (by simp)).trans (by simp [go_sem]);have hw1:w.heap.size+1<w1.heap.size:=by omega
 have HB1:=ah (((((Below.refl w.heap.size w).alloc (Nat.le_refl _) (.cells #[.slice lo lib.length dU,.slice uo ulen dR] 25)).alloc (by simp) (.cells #[.int .i64 un,.string up,.int .i64 uu,.int .i64 ua] 67))).trans (hb1.mono (by simp;omega)));clear hb1 HP;have hwle:w.heap.size≤w1.heap.size:=by omega
 generalize cZ lib up.data.toList=PO at *
 cases PO with
 | none=>
  obtain rfl:pv=.agg #[.string ⟨#[]⟩,.int .i64 0,.slice none 0 0]:=hpv;have hsz:SZ=0:=by rw [JR.out];rfl
  subst hsz;have HB2:=ah (HB1.out.alloc hwle (.cells #[.string ⟨#[]⟩,.int .i64 0,.slice none 0 0] 71));go_wp2_with fail;go_ret;have pR:=ah (show RES=ua-1 by rw [HV.out];omega);exact ⟨by first | (rw [HV.out]<;>rfl) | (rw [pR.out]<;>rfl),HB2.out⟩
 | some p=>
  obtain ⟨sv,rfl,hps⟩:=hpv;obtain ⟨pn,pz,pl⟩:=p;obtain ⟨po,jr,rfl⟩:=gQ hps;have hsz:SZ=pz:=by rw [JR.out];rfl
  subst hsz;simp only at *;have HB2:=ah (HB1.out.alloc hwle (.cells #[.string pn,.int .i64 SZ,.slice po pl.length jr] 71));go_wp2_with fail;go_ret;exact ⟨by rw [HV.out]<;>rfl,HB2.out⟩
theorem aW.take {α:Type} {f:α→List Value} {n:Nat} {B:Nat} {w:World} {ao:Option Addr} {cap:Nat} {l:List α} (hn:∀y,(f y).length=n) (h:aW B w (.slice ao l.length cap) l.length (l.flatMap f)) (k:Nat) (hk:k≤l.length):aW B w (.slice ao k cap) (l.take k).length ((l.take k).flatMap f):=by
 obtain ⟨ao',cap',e,h1,h2,h3⟩:=h;injection e with e1 _ e3;subst e1 e3;rw [List.length_take,Nat.min_eq_left hk];refine ⟨ao,cap,rfl,by omega,h2,fun hp=>?_⟩;obtain ⟨b,off,rfl,h4,h5⟩:=h3 (by omega);refine ⟨b,off,rfl,h4,fun j u hu=>h5 j u ?_⟩;rw [←Cr f n hn l k hk] at hu;rw [List.getElem?_take] at hu;split at hu
 ·exact hu
 ·cases hu
theorem nL.take {B:Nat} {w:World} {ao:Option Addr} {cap:Nat} {l:List uj} (h:nL B w (.slice ao l.length cap) l) (k:Nat) (hk:k≤l.length):nL B w (.slice ao k cap) (l.take k):=aW.take (n:=3) (fun _=>rfl) h k hk
theorem qH.take {B:Nat} {w:World} {ao:Option Addr} {cap:Nat} {l:List gX} (h:qH B w (.slice ao l.length cap) l) (k:Nat) (hk:k≤l.length):qH B w (.slice ao k cap) (l.take k):=aW.take (n:=4) (fun _=>rfl) h k hk
theorem jI.take {B:Nat} {w:World} {ao:Option Addr} {cap:Nat} {l:List jy} (h:jI B w (.slice ao l.length cap) l) (k:Nat) (hk:k≤l.length):jI B w (.slice ao k cap) (l.take k):=by
 obtain ⟨lv,rfl,h1,h2⟩:=h;refine ⟨lv.take k,by rw [List.map_take],?_,fun y hy=>h2 y (List.mem_of_mem_take hy)⟩;rw [List.length_map] at h1 hk;exact aW.take (n:=7) (fun _=>rfl) h1 k hk
theorem jD.take {B:Nat} {w:World} {ao:Option Addr} {cap:Nat} {l:List Prf} (h:jD B w (.slice ao l.length cap) l) (k:Nat) (hk:k≤l.length):jD B w (.slice ao k cap) (l.take k):=by
 obtain ⟨lv,rfl,h1,h2⟩:=h;refine ⟨lv.take k,by rw [List.map_take],?_,fun y hy=>h2 y (List.mem_of_mem_take hy)⟩;rw [List.length_map] at h1 hk;exact aW.take (n:=3) (fun _=>rfl) h1 k hk
theorem qw {α:Type} (f:α→List UInt8) (l:List α) (k:Nat) (h:k<l.length) (x:List UInt8) (h1:x∉(l.take k).map f) (h2:¬f l[k]=x):x∉(l.take (k+1)).map f:=by
 rw [List.take_succ_eq_append_getElem h,List.map_append,List.mem_append];rintro (h3 | h3)
 ·exact h1 h3
 ·simp at h3;exact h2 h3.symm
theorem mem_at {α:Type} (f:α→List UInt8) (l:List α) (k:Nat) (h:k<l.length) (x:List UInt8) (h2:f l[k]=x):x∈l.map f:=List.mem_map.2 ⟨_,List.getElem_mem h,h2⟩
end Go.Proofs.YtopmdeefcjdadaaGreat
