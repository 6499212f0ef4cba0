import Derived.Test.YtopmdeefcjdadaaGreatT41M00
import Derived.Test.YtopmdeefcjdadaaGreatT41M09
import Derived.Test.YtopmdeefcjdadaaGreatT41M06
import Derived.Test.YtopmdeefcjdadaaGreatT41M07
set_option linter.unusedVariables false
set_option linter.unusedSimpArgs false
set_option maxRecDepth 100000
set_option maxHeartbeats 32000000
namespace Go.Proofs.YtopmdeefcjdadaaGreat
open Go.RowKit
theorem xV {B:Nat} {w:World} {ao:Option Addr} {cap:Nat} {l:List gM} (h:pF B w (.slice ao l.length cap) l):l.length≤cap∧cap≤9223372036854775807:=by
 obtain ⟨ao',cap',e,h1,h2,_⟩:=h;injection e with _ _ e3;subst e3;unfold maxLen at h2;exact ⟨h1,by omega⟩
theorem Et {B:Nat} {w:World} {ao:Option Addr} {cap:Nat} {l:List ji} (h:jy B w (.slice ao l.length cap) l):l.length≤cap∧cap≤9223372036854775807:=by
 obtain ⟨lv,rfl,h,_⟩:=h;obtain ⟨ao',cap',e,h1,h2,_⟩:=h;injection e with _ _ e3;subst e3;unfold maxLen at h2;exact ⟨by simpa using h1,by omega⟩
theorem NU {B:Nat} {w:World} {ao:Option Addr} {cap:Nat} {l:List Prf} (h:jq B w (.slice ao l.length cap) l):l.length≤cap∧cap≤9223372036854775807:=by
 obtain ⟨lv,rfl,h,_⟩:=h;obtain ⟨ao',cap',e,h1,h2,_⟩:=h;injection e with _ _ e3;subst e3;unfold maxLen at h2;exact ⟨by simpa using h1,by omega⟩
theorem GD (size:Int) (pre:List ji) (x:ji) (n:Nat) (hn:n=pre.length) (po:Option Addr) (jc:Nat) (ro:Option Addr) (bK:Nat) (w:World) (hp:jy w.heap.size w (.slice po n jc) pre) (hpl:n≤100) (hpf:∀q∈pre,0≤q.fine∧q.name.size≤maxLen)
  (hr:mZ w.heap.size w (.slice ro x.oN.length bK) x.oN) (hf:tV x) :
  Calls Tryz.prog 105 #[.agg #[.string x.name,.int .i64 x.MN,.int .i64 x.sl,.int .i64 x.fine,.int .i64 x.dflt,.bool x.snap,.slice ro x.oN.length bK],.slice po n jc,.int .i64 size] w fun e w'=>e=.returned (.int .i64 (jZ size pre x))∧Below w.heap.size w w':=by
 subst hn;exact BQ size pre x po jc ro bK w hp hpl hpf hr hf
theorem JN {size:Int} {l:List ji} {k:Nat} (h:∀j (hj:j<l.length),j<k→jZ size (l.take j) l[j]=0) (hf:∀x∈l,tV x):∀q∈l.take k,0≤q.fine∧q.name.size≤maxLen:=by
 intro q hq;obtain ⟨j,hj,rfl⟩:=List.getElem_of_mem hq;rw [List.length_take] at hj;rw [List.getElem_take];have h1:=h j (by omega) (by omega);exact ⟨(lZ (rU h1).2.2.2.1).2.1.1,(hf _ (List.getElem_mem _)).2.2.2.2.1⟩
theorem yG (p:Prf) (pv:Value) (w:World) (h:jy w.heap.size w pv p.iL) (hf:rC p) :
  Calls Tryz.prog 90 #[.agg #[.string p.name,.int .i64 p.size,pv]] w fun e w'=>e=.returned (.int .i64 (iw p))∧Below w.heap.size w w':=by
 obtain ⟨pn,pz,pl⟩:=p;obtain ⟨ao,cap,rfl⟩:=gJ h;simp only at *;have HG:=ah (jy.get h);have hcp:=Et h;have HPS:=ah (fun W (hb:Below w.heap.size w W)=>(h.below hb).more hb.size);have HF:=ah hf.2.2;have pJ:=ah hf.2.1;have eF:=ah (show iw ⟨pn,pz,pl⟩=if !dX pn.data.toList then 5 else if !bU pz 1 512 then 1 else if pl.length=0 then 8 else if 40<pl.length then 2 else bP (jZ pz) pl 0 from rfl);clear h hf;generalize iw ⟨pn,pz,pl⟩=RES at *
 have KC:=ah (show ∀W,Below (w.heap.size+1) (w.alloc (.cells #[.string pn,.int .i64 pz,.slice ao pl.length cap] 71)) W→(Below w.heap.size w W∧w.heap.size<W.heap.size∧W.cell? ⟨w.heap.size,0,none⟩=some (.string pn)∧W.cell? ⟨w.heap.size,1,none⟩=some (.int .i64 pz)∧W.cell? ⟨w.heap.size,2,none⟩=some (.slice ao pl.length cap)) from fun W hW=>by
  have hz:=hW.size;simp at hz;exact ⟨((Below.refl _ _).alloc (Nat.le_refl _) _).trans (hW.mono (by omega)),by omega,(hW.cell (p:=⟨w.heap.size,0,none⟩) (by simp)).trans (by simp [go_sem]),(hW.cell (p:=⟨w.heap.size,1,none⟩) (by simp)).trans (by simp [go_sem]),(hW.cell (p:=⟨w.heap.size,2,none⟩) (by simp)).trans (by simp [go_sem])⟩)
 have KA:=ah (show ∀W o,Below (w.heap.size+1) (w.alloc (.cells #[.string pn,.int .i64 pz,.slice ao pl.length cap] 71)) W→Below (w.heap.size+1) (w.alloc (.cells #[.string pn,.int .i64 pz,.slice ao pl.length cap] 71)) (W.alloc o) from fun W o h=>h.alloc (by have:=h.size;simp at this;omega) o);have KM:=ah (show ∀W W1,Below (w.heap.size+1) (w.alloc (.cells #[.string pn,.int .i64 pz,.slice ao pl.length cap] 71)) W→Below W.heap.size W W1→Below (w.heap.size+1) (w.alloc (.cells #[.string pn,.int .i64 pz,.slice ao pl.length cap] 71)) W1 from fun W W1 h1 h2=>h1.trans (h2.mono (by have:=h1.size;simp at this;omega)));have HB0:=ah (Below.refl (w.heap.size+1) (w.alloc (.cells #[.string pn,.int .i64 pz,.slice ao pl.length cap] 71)));go_enter Tryz.func90,Tryz.ntmps90;rcases Bool.eq_false_or_eq_true (dX pn.data.toList) with k0 | k0;rotate_left
 ·skip;have HV:=ah (show RES=5 by rw [eF.out];simp [k0]);go_wp2_with (first | (go_at_call 45;((with_reducible refine (aQ _ _ _ _).mono ?_);rintro e w' ⟨rfl,rfl⟩)) | (go_at_call 104;((with_reducible refine (dh _ _ (by exact pJ.out)).mono ?_);rintro e w' ⟨rfl,rfl⟩)) | fail);go_ret;exact ⟨by rw [HV.out]<;>rfl,(KC.out _ HB0.out).1⟩
 rcases Bool.eq_false_or_eq_true (bU pz 1 512) with k1 | k1;rotate_left
 ·skip;have HV:=ah (show RES=1 by rw [eF.out];simp [k0,k1]);go_wp2_with (first | (go_at_call 45;((with_reducible refine (aQ _ _ _ _).mono ?_);rintro e w' ⟨rfl,rfl⟩)) | (go_at_call 104;((with_reducible refine (dh _ _ (by exact pJ.out)).mono ?_);rintro e w' ⟨rfl,rfl⟩)) | fail);go_ret;exact ⟨by rw [HV.out]<;>rfl,(KC.out _ HB0.out).1⟩
 by_cases k2:pl.length=0
 ·have k4:(pl.length==0)=true:=by simpa using k2
  have k5:((pl.length:Int)==0)=true:=by simpa using k2
  have HV:=ah (show RES=8 by rw [eF.out,if_pos k2];simp [k0,k1]);go_wp2_with (first | (go_at_call 45;((with_reducible refine (aQ _ _ _ _).mono ?_);rintro e w' ⟨rfl,rfl⟩)) | (go_at_call 104;((with_reducible refine (dh _ _ (by exact pJ.out)).mono ?_);rintro e w' ⟨rfl,rfl⟩)) | fail);go_ret;exact ⟨by rw [HV.out]<;>rfl,by have h:=(KC.out _ HB0.out).1;simp only [k2] at h;exact h⟩
 have k4:(pl.length==0)=false:=by simpa using k2
 have k5:((pl.length:Int)==0)=false:=by simpa using k2
 by_cases k3:40<pl.length
 ·skip;have HV:=ah (show RES=2 by rw [eF.out,if_neg k2,if_pos k3];simp [k0,k1]);go_wp2_with (first | (go_at_call 45;((with_reducible refine (aQ _ _ _ _).mono ?_);rintro e w' ⟨rfl,rfl⟩)) | (go_at_call 104;((with_reducible refine (dh _ _ (by exact pJ.out)).mono ?_);rintro e w' ⟨rfl,rfl⟩)) | fail);go_ret;exact ⟨by rw [HV.out]<;>rfl,(KC.out _ HB0.out).1⟩
 have HC:=ah (show RES=bP (jZ pz) pl 0 by rw [eF.out,if_neg k2,if_neg k3];simp [k0,k1]);go_wp2_with (first | (go_at_call 45;((with_reducible refine (aQ _ _ _ _).mono ?_);rintro e w' ⟨rfl,rfl⟩)) | (go_at_call 104;((with_reducible refine (dh _ _ (by exact pJ.out)).mono ?_);rintro e w' ⟨rfl,rfl⟩)) | fail);clear eF k0 k1 k2 k4 k5;go_loopw [29] (fun i wx=>∃k:Nat,k≤pl.length∧i=.int .i64 k∧Hid (RES=bP (jZ pz) pl k)∧Hid (∀j (hj:j<pl.length),j<k→jZ pz (pl.take j) pl[j]=0)∧Hid (Below (w.heap.size+1) (w.alloc (.cells #[.string pn,.int .i64 pz,.slice ao pl.length cap] 71)) wx)) (fun i _=>pl.length-(intOf i).toNat)
 case atStart=>exact ⟨0,Nat.zero_le _,rfl,HC,ah (fun j _ h=>absurd h (Nat.not_lt_zero _)),HB0⟩
 case round=>
  clear HC HB0;obtain ⟨k,hk,rfl,iO,F9,bG⟩:=hrel;obtain ⟨hB,hz,p0,p1,p2⟩:=KC.out wr bG.out;by_cases hlt:k<pl.length
  ·obtain ⟨b,off,cap',hsl,hb,_,hc⟩:=HG.out (by omega);injection hsl with hs1 hs2 hs3;subst hs1 hs3;obtain ⟨rv,sK,hcc⟩:=hc k hlt;obtain ⟨d0,d1,d2,d3,d4,d5,d6⟩:=hcc wr hB;obtain ⟨ro,bK,rfl,_⟩:=aW.shape sK;have hbr:b<wr.heap.size:=by have:=hB.size;omega
   have hfit:=HF.out _ (List.getElem_mem hlt);have nQ:=ah (fun W (hb:Below w.heap.size w W)=>GD pz (pl.take k) pl[k] k (by rw [List.length_take];omega) (some ⟨b,off,none⟩) cap ro bK W ((HPS.out W hb).take k (by omega)) (by omega) (JN F9.out HF.out) ((sK.below hb).more hb.size) hfit);have rG:=ah (eZ (jZ pz) pl k hlt);have iG:=ah (fP (jZ pz) pl k hlt)
   have Dl:=ah (show jZ pz (pl.take k) pl[k]=0→∀j (hj:j<pl.length),j<k+1→jZ pz (pl.take j) pl[j]=0 from fun h j hj hjk=>by
    by_cases c:j=k
    ·subst c;exact h
    ·exact F9.out j hj (by omega))
   generalize jZ pz (pl.take k) pl[k]=FF at *;clear hc hcc sK hfit F9 hB;generalize kM:pl[k]=rk at *;clear kM;obtain ⟨xn,xg,xs,xf,xd,xb,xl⟩:=rk;simp only at *;have dN:=ah (KA.out _ (.cells #[.string xn,.int .i64 xg,.int .i64 xs,.int .i64 xf,.int .i64 xd,.bool xb,.slice ro xl.length bK] 81) bG.out);have KX:=ah (show ∀W,Below (wr.heap.size+1) (wr.alloc (.cells #[.string xn,.int .i64 xg,.int .i64 xs,.int .i64 xf,.int .i64 xd,.bool xb,.slice ro xl.length bK] 81)) W→W.cell? ⟨wr.heap.size,0,none⟩=some (.string xn)∧W.cell? ⟨wr.heap.size,1,none⟩=some (.int .i64 xg)∧W.cell? ⟨wr.heap.size,2,none⟩=some (.int .i64 xs)∧W.cell? ⟨wr.heap.size,3,none⟩=some (.int .i64 xf)∧W.cell? ⟨wr.heap.size,4,none⟩=some (.int .i64 xd)∧W.cell? ⟨wr.heap.size,5,none⟩=some (.bool xb)∧W.cell? ⟨wr.heap.size,6,none⟩=some (.slice ro xl.length bK) from fun W hW=>⟨(hW.cell (p:=⟨wr.heap.size,0,none⟩) (by simp)).trans (by simp [go_sem]),(hW.cell (p:=⟨wr.heap.size,1,none⟩) (by simp)).trans (by simp [go_sem]),(hW.cell (p:=⟨wr.heap.size,2,none⟩) (by simp)).trans (by simp [go_sem]),(hW.cell (p:=⟨wr.heap.size,3,none⟩) (by simp)).trans (by simp [go_sem]),(hW.cell (p:=⟨wr.heap.size,4,none⟩) (by simp)).trans (by simp [go_sem]),(hW.cell (p:=⟨wr.heap.size,5,none⟩) (by simp)).trans (by simp [go_sem]),(hW.cell (p:=⟨wr.heap.size,6,none⟩) (by simp)).trans (by simp [go_sem])⟩);have KXM:=ah (show ∀W W1,Below (wr.heap.size+1) (wr.alloc (.cells #[.string xn,.int .i64 xg,.int .i64 xs,.int .i64 xf,.int .i64 xd,.bool xb,.slice ro xl.length bK] 81)) W→Below W.heap.size W W1→Below (wr.heap.size+1) (wr.alloc (.cells #[.string xn,.int .i64 xg,.int .i64 xs,.int .i64 xf,.int .i64 xd,.bool xb,.slice ro xl.length bK] 81)) W1 from fun W W1 h1 h2=>h1.trans (h2.mono (by have:=h1.size;simp at this;omega)));go_upto_region 12 with fail;obtain ⟨_,hz0,q0,q1,q2⟩:=KC.out _ dN.out;go_cut [5] (fun s5 wx=>s5=.int .i64 FF∧Below (w.heap.size+1) (w.alloc (.cells #[.string pn,.int .i64 pz,.slice (some ⟨b,off,none⟩) pl.length cap] 71)) wx)
   case first=>
    have hw0:Below (wr.heap.size+1) (wr.alloc (.cells #[.string xn,.int .i64 xg,.int .i64 xs,.int .i64 xf,.int .i64 xd,.bool xb,.slice ro xl.length bK] 81)) (wr.alloc (.cells #[.string xn,.int .i64 xg,.int .i64 xs,.int .i64 xf,.int .i64 xd,.bool xb,.slice ro xl.length bK] 81)):=Below.refl _ _;have hw1:Below (wr.heap.size+1) (wr.alloc (.cells #[.string xn,.int .i64 xg,.int .i64 xs,.int .i64 xf,.int .i64 xd,.bool xb,.slice ro xl.length bK] 81)) (wr.alloc (.cells #[.string xn,.int .i64 xg,.int .i64 xs,.int .i64 xf,.int .i64 xd,.bool xb,.slice ro xl.length bK] 81)).drew:=(Below.refl _ _).drew;have hx0:=dN.out;have hx1:Below (w.heap.size+1) (w.alloc (.cells #[.string pn,.int .i64 pz,.slice (some ⟨b,off,none⟩) pl.length cap] 71)) (wr.alloc (.cells #[.string xn,.int .i64 xg,.int .i64 xs,.int .i64 xf,.int .i64 xd,.bool xb,.slice ro xl.length bK] 81)).drew:=dN.out.drew;have hi1:(0:Int)≤(k:Int):=by omega
    have hi2:(k:Int)≤(cap:Int):=by omega
    have hi3:k≤cap:=by omega
    obtain ⟨_,hzd,qd0,qd1,qd2⟩:=KC.out _ hx1
    go_region_held3 (fun W=>(W.cell? ⟨wr.heap.size,0,none⟩=some (.string xn)∧W.cell? ⟨wr.heap.size,1,none⟩=some (.int .i64 xg)∧W.cell? ⟨wr.heap.size,2,none⟩=some (.int .i64 xs)∧W.cell? ⟨wr.heap.size,3,none⟩=some (.int .i64 xf)∧W.cell? ⟨wr.heap.size,4,none⟩=some (.int .i64 xd)∧W.cell? ⟨wr.heap.size,5,none⟩=some (.bool xb)∧W.cell? ⟨wr.heap.size,6,none⟩=some (.slice ro xl.length bK))∧W.cell? ⟨w.heap.size,1,none⟩=some (.int .i64 pz)∧W.cell? ⟨w.heap.size,2,none⟩=some (.slice (some ⟨b,off,none⟩) pl.length cap))
     (first | exact ⟨KX.out _ (by assumption),q1,q2⟩ | exact ⟨KX.out _ (by assumption),qd1,qd2⟩ | exact ⟨KX.out _ (by assumption),(KC.out _ (by assumption)).2.2.2⟩)
     (first
      | (go_at_call 105;(with_reducible refine (nQ.out _ (KC.out _ (by assumption)).1).mono ?_);rintro e WC ⟨rfl,hbC⟩;have F4:=KM.out _ _ (by assumption) hbC;have hwX:=KXM.out _ _ (by assumption) hbC;clear hbC)
      | fail)
    all_goals go_wp2_with fail
    all_goals go_meet
    all_goals exact ⟨rfl,by assumption⟩
   case rest=>
    obtain ⟨rfl,hbc⟩:=hcut;have ng:=ah hbc;clear hbc nQ KXM q0 q1 q2 d0 d1 d2 d3 d4 d5 d6 p0 p1 p2 KX;by_cases hE:FF=0
    ·have HV:=ah (show RES=bP (jZ pz) pl (k+1) by rw [iO.out,rG.out hE]);have IL:=ah (Dl.out hE);clear Dl rG iG dN bG;subst hE;go_wp2_with fail;go_roundw
     case rel=>exact ⟨k+1,by omega,by go_num,HV,IL,ng⟩
     case measure=>simp [intOf];omega
    ·have HV:=ah (show RES=FF by rw [iO.out,iG.out hE]);clear Dl rG iG dN bG;go_wp2_with fail;go_ret;exact ⟨by rw [HV.out]<;>rfl,(KC.out _ ng.out).1⟩
  ·have HV:=ah (show RES=0 by rw [iO.out,fO (jZ pz) pl k (by omega)]);have HBO:=ah hB;have hkk:k=pl.length:=by omega
   clear hB;subst hkk;go_wp2_with fail;go_ret;exact ⟨by rw [HV.out]<;>rfl,HBO.out⟩
theorem yH (v:Value) (l:List Prf) (w:World) (h:jq w.heap.size w v l) (hf:∀p∈l,rC p) :
  Calls Tryz.prog 56 #[v] w fun e w'=>e=.returned (.int .i64 (eu l))∧Below w.heap.size w w':=by
 have HG:=ah (jq.get h);have HF:=ah hf;obtain ⟨ao,cap,rfl⟩:=iq h;have hcp:=NU h;clear h hf;have ug:=ah (show eu l=if 60<l.length then 2 else bP nu l 0 from rfl);generalize eu l=RES at *;go_enter Tryz.func56,Tryz.ntmps56;by_cases H8:60<l.length
 ·have HV:=ah (show RES=2 by rw [ug.out,if_pos H8]);go_wp2_with fail;go_ret;exact ⟨by rw [HV.out]<;>rfl,Below.refl _ _⟩
 have HC:=ah (show RES=bP nu l 0 by rw [ug.out,if_neg H8]);have h31:l.length≤60:=by omega
 clear ug H8;go_wp2_with fail;go_loopw [13] (fun i wx=>∃k:Nat,k≤l.length∧i=.int .i64 k∧Hid (RES=bP nu l k)∧Hid (Below w.heap.size w wx)) (fun i _=>l.length-(intOf i).toNat)
 case atStart=>exact ⟨0,Nat.zero_le _,rfl,HC,ah (Below.refl _ _)⟩
 case round=>
  clear HC;obtain ⟨k,hk,rfl,iO,bG⟩:=hrel;obtain ⟨wo,rfl⟩:∃wo:World,wo=wr:=⟨_,rfl⟩;have xL:=bG.out.size;by_cases hlt:k<l.length
  ·obtain ⟨b,off,cap',hsl,hb,_,hc⟩:=HG.out (by omega);injection hsl with hs1 hs2 hs3;subst hs1 hs3;obtain ⟨pv,hpv,hcc⟩:=hc k hlt;obtain ⟨d0,d1,d2⟩:=hcc wo bG.out;have HRW:=ah hc;have hbr:b<wo.heap.size:=by omega
   have hfit:=HF.out _ (List.getElem_mem hlt);have HCP:=ah (fun W (hW:Below w.heap.size w W)=>yG l[k] pv W ((hpv.below hW).more hW.size) hfit);have rG:=ah (eZ nu l k hlt);have iG:=ah (fP nu l k hlt);have eF:=ah (show nu (l.take k) l[k]=if iw l[k]≠0 then iw l[k] else if l[k].nm∈(l.take k).map Prf.nm then 6 else 0 from rfl);generalize nu (l.take k) l[k]=FF at *;generalize iw l[k]=E at *;have hnm:l[k].nm=l[k].name.data.toList:=rfl;rw [hnm] at eF;obtain ⟨po,jc,rfl⟩:=gJ hpv;clear hnm hc hcc hfit hpv HG;generalize kM:l[k]=rk at *;clear kM;obtain ⟨pn,pz,pl⟩:=rk;simp only at *;have dN:=ah (bG.out.alloc xL (.cells #[.string pn,.int .i64 pz,.slice po pl.length jc] 71));have nQ:=ah (HCP.out _ dN.out);clear HCP;go_wp2_with fail;refine nQ.out.mono ?_;rintro e wc ⟨rfl,hbc⟩;simp only [World.size_alloc] at hbc;have hzc:=hbc.size;simp only [World.size_alloc] at hzc;have ng:=ah (dN.out.trans (hbc.mono (by omega)));have e0:wc.cell? ⟨wo.heap.size,0,none⟩=some (.string pn):=(hbc.cell (p:=⟨wo.heap.size,0,none⟩) (by simp)).trans (by simp [go_sem]);have Bg:w.heap.size<wc.heap.size:=by omega
   clear hbc nQ d0 d1 d2 dN bG;by_cases hE:E=0;rotate_left
   ·skip;have HE:FF=E:=by rw [eF.out];simp [hE]
    have HV:=ah (show RES=E by rw [iO.out,iG.out (by rw [HE];first | decide | exact hE),HE]);clear HE;go_wp2_with fail;go_ret;exact ⟨by rw [HV.out]<;>rfl,ng.out⟩
   have HFG:=ah (show FF=if pn.data.toList∈(l.take k).map Prf.nm then 6 else 0 by rw [eF.out,hE];rfl);clear eF;subst hE;go_wp2_with fail;generalize hnl:pn.data.toList=nl at *;go_loopw [27] (fun i wx=>∃j:Nat,j≤k∧i=.int .i64 j∧Hid (nl∉(l.take j).map Prf.nm)∧Hid (Below wc.heap.size wc wx)) (fun i _=>k-(intOf i).toNat)
   case atStart=>exact ⟨0,Nat.zero_le _,rfl,ah (by simp),ah (Below.refl _ _)⟩
   case round=>
    obtain ⟨j,hj,rfl,wN,uW⟩:=hrel;have hzi:=uW.out.size;have e3:wr.cell? ⟨wo.heap.size,0,none⟩=some (.string pn):=(uW.out.cell (p:=⟨wo.heap.size,0,none⟩) (by simp;omega)).trans e0;have hbi:b<wr.heap.size:=by omega
    have hor:wo.heap.size<wr.heap.size:=by omega
    have hwB:Below w.heap.size w wr:=ng.out.trans (uW.out.mono (by omega));by_cases hjlt:j<k
    ·obtain ⟨rv,sK,hcc⟩:=HRW.out j (by omega);obtain ⟨d0,d1,d2⟩:=hcc wr hwB;obtain ⟨yo,Gd,rfl⟩:=gJ sK;have DI:=ah (wX Prf.nm l k j (by omega) hjlt nl);have Qd:=ah (oU Prf.nm l j (by omega) nl wN.out);have hnm:l[j].nm=l[j].name.data.toList:=rfl;rw [hnm] at DI Qd;have Bw:=ah hwB;clear hnm wN hcc sK hwB;generalize kM:l[j]'(by omega)=rk at *;clear kM;obtain ⟨yn,yz,yl⟩:=rk;simp only at *;have dN:=ah (uW.out.alloc hzi (.cells #[.string yn,.int .i64 yz,.slice yo yl.length Gd] 71));by_cases he:yn.data.toList=nl
     ·have hin:=DI.out he;have h2:(yn.toList==pn.toList)=true:=by rw [Lib.toList_data,Lib.toList_data,hnl];simpa using he
      have HE:FF=6:=by rw [HFG.out,if_pos hin]
      have HV:=ah (show RES=6 by rw [iO.out,iG.out (by rw [HE];decide),HE]);have HWC:=ah (ng.out.trans (dN.out.mono (by omega)));clear HE;go_wp2_with fail;go_ret;exact ⟨by rw [HV.out]<;>rfl,HWC.out⟩
     ·have h2:(yn.toList==pn.toList)=false:=by rw [Lib.toList_data,Lib.toList_data,hnl];simpa using he
      have HV:=ah (Qd.out he);clear he DI Qd;go_wp2_with fail;go_roundw
      case rel=>exact ⟨j+1,by omega,by go_num,HV,dN⟩
      case measure=>simp [intOf];omega
    ·have hjk:j=k:=by omega
     subst hjk;have HE:FF=0:=by rw [HFG.out,if_neg wN.out]
     have HV:=ah (show RES=bP nu l (j+1) by rw [iO.out,rG.out HE]);have DK:=ah hwB;clear HE wN hwB;go_wp2_with fail;go_roundw
     case rel=>exact ⟨j+1,by omega,by go_num,HV,DK⟩
     case measure=>simp [intOf];omega
  ·have HV:=ah (show RES=0 by rw [iO.out,fO nu l k (by omega)]);have hkk:k=l.length:=by omega
   subst hkk;go_wp2_with fail;go_ret;exact ⟨by rw [HV.out]<;>rfl,bG.out⟩
def iH (l:List gM) (n:Int):Nat:=(l.takeWhile (fun u=>decide (u.num<n))).length
def xG (l:List gM) (n:Int):Bool:=l.any (fun u=>decide (u.num=n))
def kC (n:Int) (u:gM):Bool:=decide (u.num=n)
def EK (l:List gM) (n:Int):Int:=fH (kC n) l 0
def MG (l:List gM):Prop:=∀i j (hi:i<l.length) (hj:j<l.length),i<j→l[i].num<l[j].num
theorem BU (n:Int):∀(l:List gM) (i:Nat) (h:i<l.length),i<iH l n→l[i].num<n
 | [],i,h,_=>absurd h (by simp)
 | u::l,i,h,hp=>by
  by_cases c:u.num<n
  ·have h1:iH (u::l) n=iH l n+1:=by simp [iH,List.takeWhile_cons,c]
   cases i with
   | zero=>exact c
   | succ i=>exact BU n l i (by simpa using h) (by omega)
  ·have h1:iH (u::l) n=0:=by simp [iH,List.takeWhile_cons,c]
   omega
theorem BZ (n:Int):∀(l:List gM) (h:iH l n<l.length),n≤(l[iH l n]'h).num
 | [],h=>absurd h (by simp)
 | u::l,h=>by
  by_cases c:u.num<n
  ·have h1:iH (u::l) n=iH l n+1:=by simp [iH,List.takeWhile_cons,c]
   have h2:iH l n<l.length:=by rw [h1] at h;simpa using h
   have h3:=BZ n l h2;simp only [h1,List.getElem_cons_succ];exact h3
  ·have h1:iH (u::l) n=0:=by simp [iH,List.takeWhile_cons,c]
   simp only [h1,List.getElem_cons_zero];omega
theorem Jt {l:List gM} (h:MG l) (n:Int):xG l n=true↔∃hp:iH l n<l.length,(l[iH l n]'hp).num=n:=by
 constructor
 ·intro h1;obtain ⟨u,hu,h2⟩:=List.any_eq_true.1 h1;simp at h2;obtain ⟨i,hi,rfl⟩:=List.getElem_of_mem hu;have h3:¬i<iH l n:=fun c=>by have:=BU n l i hi c;omega
  have h4:¬iH l n<i:=fun c=>by
   have h5:=BZ n l (by omega);have:=h (iH l n) i (by omega) hi c;omega
  have h6:iH l n=i:=by omega
  subst h6;exact ⟨hi,h2⟩
 ·rintro ⟨hp,h1⟩;exact List.any_eq_true.2 ⟨_,List.getElem_mem hp,by simpa using h1⟩
theorem EJ {l:List gM} (h:MG l) (n:Int):(xG l n=true→EK l n=(iH l n:Int))∧(xG l n=false→EK l n=-1):=by
 rcases kW (kC n) l with ⟨h1,h2⟩ | ⟨k,hk,h1,h2⟩
 ·refine ⟨fun c=>?_,fun _=>h1⟩;obtain ⟨hp,h3⟩:=(Jt h n).1 c;have:=List.find?_eq_none.1 h2 _ (List.getElem_mem hp);simp [kC] at this;exact absurd h3 this
 ·have h3:l[k].num=n:=by simpa [kC] using List.find?_some h2
  refine ⟨fun _=>?_,fun c=>?_⟩
  ·have h4:¬k<iH l n:=fun d=>by have:=BU n l k hk d;omega
   have h5:¬iH l n<k:=fun d=>by
    have h6:=BZ n l (by omega);have:=h (iH l n) k (by omega) hk d;omega
   have h7:iH l n=k:=by omega
   rw [h7];exact h1
  ·have:xG l n=true:=List.any_eq_true.2 ⟨_,List.getElem_mem hk,by simpa using h3⟩;rw [this] at c;cases c
theorem wm {r:jw} (h:bW r=0):MG r.aD:=by
 obtain ⟨_,_,h3⟩:=iV h
 have step:∀k,∀hk:k+1<r.aD.length,r.aD[k].num<r.aD[k+1].num:=by
  intro k hk;have h4:=(mq (fG _ _ h3 (k+1) hk)).2.1;unfold jW at h4;rw [om r.aD (k+1) hk (by omega)] at h4;simp at h4;exact h4
 have less:∀i d,∀hj:i+1+d<r.aD.length,r.aD[i].num<(r.aD[i+1+d]'hj).num:=by
  intro i d
  induction d with
  | zero=>intro hj;exact step i hj
  | succ d ih=>intro hj;exact Int.lt_trans (ih (by omega)) (step (i+1+d) hj)
 intro i j hi hj hij;obtain ⟨d,rfl⟩:∃d,j=i+1+d:=⟨j-(i+1),by omega⟩;exact less i d hj
theorem KD {r:jw} (h:bW r=0) {u:gM} (hu:u∈r.aD):1≤u.num∧u.num≤9999:=by
 obtain ⟨_,_,h3⟩:=iV h;obtain ⟨k,hk,rfl⟩:=List.getElem_of_mem hu;exact (mq (fG _ _ h3 k hk)).1
theorem J5 (x:jw) (lv uv:Value) (n:Int) (w:World) (h:kH w.heap.size w x lv uv) :
  Calls Tryz.prog 75 #[kS lv uv,.int .i64 n] w fun e w'=>e=.returned (.int .i64 (EK x.aD n))∧Below w.heap.size w w':=by
 have HG:=ah (pF.get h.aD);obtain ⟨uo,dG,rfl,_⟩:=aW.shape h.aD;obtain ⟨lo,dJ,rfl⟩:=iq h.lib;have hm:=xV h.aD;have HC:=ah (show EK x.aD n=fH (kC n) (x.aD.drop 0) 0 by simp [EK]);unfold kS;clear h;generalize EK x.aD n=RES at *;obtain ⟨lib,aD⟩:=x;simp only at *;go_enter Tryz.func75,Tryz.ntmps75;go_wp2_with fail;go_loopw [10] (fun i wx=>∃k:Nat,k≤aD.length∧i=.int .i64 k∧Hid (RES=fH (kC n) (aD.drop k) k)∧Hid (Below w.heap.size w wx)) (fun i _=>aD.length-(intOf i).toNat)
 case atStart=>exact ⟨0,Nat.zero_le _,rfl,HC,ah ((Below.refl _ _).alloc (Nat.le_refl _) _)⟩
 case round=>
  obtain ⟨k,hk,rfl,HR,bG⟩:=hrel;by_cases hlt:k<aD.length
  ·obtain ⟨b,off,cap',hsl,hb,_,hc⟩:=HG.out (by omega);injection hsl with hs1 hs2 hs3;subst hs1 hs3;obtain ⟨d0,d1,d2,d3⟩:=hc k hlt wr bG.out;have hbr:b<wr.heap.size:=by have:=bG.out.size;omega
   have HY:=ah (oo (kC n) aD k hlt);have HN:=ah (rX (kC n) aD k hlt);have HT:=ah (show kC n aD[k]=decide (aD[k].num=n) from rfl);clear hc;generalize kC n aD[k]=T at *;generalize kM:aD[k]=rk at *;clear kM;obtain ⟨un,up,uu,ua⟩:=rk;simp only at *;have dN:=ah (bG.out.alloc (bG.out.size) (.cells #[.int .i64 un,.string up,.int .i64 uu,.int .i64 ua] 67));by_cases he:un=n
   ·have h2:(un==n)=true:=by simpa using he
    have HV:=ah (HR.out.trans (HY.out (by rw [HT.out];simpa using he)));clear HT HN he;go_wp2_with fail;go_ret;exact ⟨by rw [HV.out]<;>rfl,dN.out⟩
   ·have h2:(un==n)=false:=by simpa using he
    have HV:=ah (HR.out.trans (HN.out (by rw [HT.out];simpa using he)));clear HT HY he;go_wp2_with fail;go_roundw
    case rel=>exact ⟨k+1,by omega,by go_num,HV,dN⟩
    case measure=>simp [intOf];omega
  ·have HV:=ah (show RES=-1 by rw [HR.out,oq _ aD k (by omega)]);have hkk:k=aD.length:=by omega
   subst hkk;go_wp2_with fail;go_ret;exact ⟨by rw [HV.out]<;>rfl,bG.out⟩
theorem zT (B:Nat) (v:Value) (l:List Prf) (nm:ByteArray) (w:World) (hBw:B≤w.heap.size) (h:jq B w v l) :
  Calls Tryz.prog 57 #[v,.string nm] w fun e w'=>∃pv,e=.returned (.tuple #[pv,.bool (cB l nm.data.toList).isSome])∧Ah B w' (cB l nm.data.toList) pv∧Below w.heap.size w w':=by
 have HG:=ah (jq.get h);obtain ⟨ao,cap,rfl⟩:=iq h
 have hm:l.length≤9223372036854775807:=by
  by_cases c:0<l.length
  ·obtain ⟨_,_,_,_,_,hm,_⟩:=jq.get h c;unfold maxLen at hm;exact hm
  ·omega
 have HS:=ah (kW (dB nm.data.toList) l)
 have xQ:=ah (show (fH (dB nm.data.toList) l 0=-1→cB l nm.data.toList=none)∧∀(k:Nat) (h:k<l.length),fH (dB nm.data.toList) l 0=(k:Int)→cB l nm.data.toList=some l[k] from by
  rcases HS.out with ⟨h1,h2⟩ | ⟨k,hk,h1,h2⟩
  ·exact ⟨fun _=>h2,fun k hk h=>by rw [h1] at h;omega⟩
  ·refine ⟨fun h=>by rw [h1] at h;omega,fun j hj h=>?_⟩;rw [h1] at h;have:j=k:=by omega
   subst this;exact h2)
 have HC:=ah (show fH (dB nm.data.toList) l 0=fH (dB nm.data.toList) (l.drop 0) 0 by simp);generalize fH (dB nm.data.toList) l 0=IX at *;generalize hPO:cB l nm.data.toList=PO at *;clear hPO HS h;go_enter Tryz.func57,Tryz.ntmps57;go_wp2_with fail;go_loopw [10] (fun i wr=>∃k:Nat,k≤l.length∧i=.int .i64 k∧Hid (IX=fH (dB nm.data.toList) (l.drop k) k)∧Hid (Below (w.heap.size+1) (w.alloc (.cells #[.string ⟨#[]⟩,.int .i64 0,.slice none 0 0] 71)) wr)) (fun i _=>l.length-(intOf i).toNat)
 case atStart=>exact ⟨0,Nat.zero_le _,rfl,HC,ah (Below.refl _ _)⟩
 case round=>
  obtain ⟨k,hk,rfl,HR,bG⟩:=hrel;have hzr:=bG.out.size;simp only [World.size_alloc] at hzr;have EO:Below w.heap.size w wr:=((Below.refl _ _).alloc (Nat.le_refl _) _).trans (bG.out.mono (by omega));have z0:wr.cell? ⟨w.heap.size,0,none⟩=some (.string ⟨#[]⟩):=(bG.out.cell (p:=⟨w.heap.size,0,none⟩) (by simp)).trans (by simp [go_sem]);have z1:wr.cell? ⟨w.heap.size,1,none⟩=some (.int .i64 0):=(bG.out.cell (p:=⟨w.heap.size,1,none⟩) (by simp)).trans (by simp [go_sem]);have z2:wr.cell? ⟨w.heap.size,2,none⟩=some (.slice none 0 0):=(bG.out.cell (p:=⟨w.heap.size,2,none⟩) (by simp)).trans (by simp [go_sem]);have y0:wr.frozen? ⟨w.heap.size,0,none⟩=false:=(bG.out.frozen (p:=⟨w.heap.size,0,none⟩) (by simp)).trans (by simp [go_sem]);have y1:wr.frozen? ⟨w.heap.size,1,none⟩=false:=(bG.out.frozen (p:=⟨w.heap.size,1,none⟩) (by simp)).trans (by simp [go_sem]);have y2:wr.frozen? ⟨w.heap.size,2,none⟩=false:=(bG.out.frozen (p:=⟨w.heap.size,2,none⟩) (by simp)).trans (by simp [go_sem]);have hwr:w.heap.size<wr.heap.size:=by omega
  have FK:=ah (show ∀W,Below w.heap.size w W→∀u0 u1 u2,Below w.heap.size w (((W.setCell ⟨w.heap.size,0,none⟩ u0).setCell ⟨w.heap.size,1,none⟩ u1).setCell ⟨w.heap.size,2,none⟩ u2) from fun W hW u0 u1 u2=>((hW.setCell (p:=⟨w.heap.size,0,none⟩) (by simp) u0).setCell (p:=⟨w.heap.size,1,none⟩) (by simp) u1).setCell (p:=⟨w.heap.size,2,none⟩) (by simp) u2);by_cases hlt:k<l.length
  ·obtain ⟨b,off,cap',hsl,hbb,_,hc⟩:=HG.out (by omega);injection hsl with hs1 hs2 hs3;subst hs1 hs3;obtain ⟨pv,hpv,hcc⟩:=hc k hlt;obtain ⟨d0,d1,d2⟩:=hcc wr (EO.mono hBw);have MB:=ah hpv;have hbr:b<wr.heap.size:=by omega
   have HY:=ah (oo (dB nm.data.toList) l k hlt);have HN:=ah (rX (dB nm.data.toList) l k hlt);have HT:=ah (show dB nm.data.toList l[k]=decide (l[k].name.data.toList=nm.data.toList) from rfl);have HPS:=ah (xQ.out.2 k hlt);obtain ⟨po,jc,rfl⟩:=gJ hpv;have rJ:=ah EO;clear hc hcc hpv xQ EO;generalize dB nm.data.toList l[k]=T at *;generalize kM:l[k]=rk at *;clear kM;obtain ⟨pn,pz,pl⟩:=rk;simp only at *;by_cases he:pn.data.toList=nm.data.toList
   ·have h2:(pn.toList==nm.toList)=true:=by rw [Lib.toList_data,Lib.toList_data];simpa using he
    have HV:=ah (HPS.out (HR.out.trans (HY.out (by rw [HT.out];simpa using he))));clear he;have Ap:PO=some ⟨pn,pz,pl⟩:=HV.out;go_wp2_with fail;exact bodyPost_ret (v:=.tuple #[.agg #[.string pn,.int .i64 pz,.slice po pl.length jc],.bool true]) (by simp [results,Tryz.results57,go_sem,z0,z1,z2,hwr]) rfl ⟨_,by rw [HV.out]<;>rfl,by rw [HV.out];exact ⟨_,rfl,MB.out.below (((FK.out _ rJ.out _ _ _).alloc (by simp;omega) _).mono hBw)⟩,(FK.out _ rJ.out _ _ _).alloc (by simp;omega) _⟩
   ·have h2:(pn.toList==nm.toList)=false:=by rw [Lib.toList_data,Lib.toList_data];simpa using he
    have HV:=ah (HR.out.trans (HN.out (by rw [HT.out];simpa using he)));clear he;have Qj:=ah (bG.out.alloc (by omega) (.cells #[.string pn,.int .i64 pz,.slice po pl.length jc] 71));go_wp2_with fail;go_roundw
    case rel=>exact ⟨k+1,by omega,by go_num,HV,Qj⟩
    case measure=>simp [intOf];omega
  ·have HV:=ah (xQ.out.1 (by rw [HR.out,oq _ l k (by omega)]));have rJ:=ah EO;clear EO;have hkk:k=l.length:=by omega
   subst hkk;go_wp2_with fail;exact bodyPost_ret (v:=.tuple #[.agg #[.string ⟨#[]⟩,.int .i64 0,.slice none 0 0],.bool false]) (by simp [results,Tryz.results57,go_sem,z0,z1,z2]) rfl ⟨_,by rw [HV.out]<;>rfl,by rw [HV.out];rfl,FK.out _ rJ.out _ _ _⟩
def jT (nm:List UInt8) (p:ji):Bool:=decide (p.nm=nm)
def kL (l:List ji) (nm:List UInt8):Option ji:=l.find? (jT nm)
def Dh (B:Nat) (w:World) (o:Option ji) (v:Value):Prop:=
 match o with
 | some p=>∃rv,v=.agg #[.string p.name,.int .i64 p.MN,.int .i64 p.sl,.int .i64 p.fine,.int .i64 p.dflt,.bool p.snap,rv]∧mZ B w rv p.oN
 | none=>v=.agg #[.string ⟨#[]⟩,.int .i64 0,.int .i64 0,.int .i64 0,.int .i64 0,.bool false,.slice none 0 0]
theorem Dh.below {B:Nat} {w w':World} {o:Option ji} {v:Value} (h:Dh B w o v) (hb:Below B w w'):Dh B w' o v:=by
 cases o with
 | none=>exact h
 | some p=>
  obtain ⟨pv,h1,h2⟩:=h;exact ⟨pv,h1,h2.below hb⟩
theorem oO {B:Nat} {w:World} {v:Value} {l:List sS} (h:mZ B w v l):∃ao cap,v=.slice ao l.length cap:=by
 obtain ⟨ao,cap,rfl,_⟩:=aW.shape h;exact ⟨ao,cap,rfl⟩
theorem tJ {B:Nat} {w:World} {o:Option ji} {v:Value} (h:Dh B w o v):∃qn qg qs qf qd qb qo ql qc,v=.agg #[.string qn,.int .i64 qg,.int .i64 qs,.int .i64 qf,.int .i64 qd,.bool qb,.slice qo ql qc]:=by
 cases o with
 | none=>exact ⟨_,_,_,_,_,_,_,_,_,h⟩
 | some p=>
  obtain ⟨pv,rfl,hp⟩:=h;obtain ⟨ao,cap,rfl⟩:=oO hp;exact ⟨_,_,_,_,_,_,_,_,_,rfl⟩
end Go.Proofs.YtopmdeefcjdadaaGreat
