import Derived.Test.YtopmdeefcjdadaaGreatT42M00
import Derived.Test.YtopmdeefcjdadaaGreatT42M08
import Derived.Test.YtopmdeefcjdadaaGreatT42M05
import Derived.Test.YtopmdeefcjdadaaGreatT42M06
set_option linter.unusedVariables false
set_option linter.unusedSimpArgs false
set_option maxRecDepth 100000
set_option maxHeartbeats 32000000
namespace Go.Proofs.YtopmdeefcjdadaaGreat
open Go.RowKit
theorem yZ {B:Nat} {w:World} {ao:Option Addr} {cap:Nat} {l:List gX} (h:qH B w (.slice ao l.length cap) l):l.length≤cap∧cap≤9223372036854775807:=by
 obtain ⟨ao',cap',e,h1,h2,_⟩:=h;injection e with _ _ e3;subst e3;unfold maxLen at h2;exact ⟨h1,by omega⟩
theorem FH {B:Nat} {w:World} {ao:Option Addr} {cap:Nat} {l:List jy} (h:jI B w (.slice ao l.length cap) l):l.length≤cap∧cap≤9223372036854775807:=by
 obtain ⟨lv,rfl,h,_⟩:=h;obtain ⟨ao',cap',e,h1,h2,_⟩:=h;injection e with _ _ e3;subst e3;unfold maxLen at h2;exact ⟨by simpa using h1,by omega⟩
theorem Pw {B:Nat} {w:World} {ao:Option Addr} {cap:Nat} {l:List Prf} (h:jD B w (.slice ao l.length cap) l):l.length≤cap∧cap≤9223372036854775807:=by
 obtain ⟨lv,rfl,h,_⟩:=h;obtain ⟨ao',cap',e,h1,h2,_⟩:=h;injection e with _ _ e3;subst e3;unfold maxLen at h2;exact ⟨by simpa using h1,by omega⟩
theorem Iz (size:Int) (pre:List jy) (x:jy) (n:Nat) (hn:n=pre.length) (po:Option Addr) (jr:Nat) (ro:Option Addr) (bD:Nat) (w:World) (hp:jI w.heap.size w (.slice po n jr) pre) (hpl:n≤100) (hpf:∀q∈pre,0≤q.fine∧q.name.size≤maxLen)
  (hr:nL w.heap.size w (.slice ro x.pY.length bD) x.pY) (hf:uR x) :
  Calls Tryz.prog 105 #[.agg #[.string x.name,.int .i64 x.Oh,.int .i64 x.sl,.int .i64 x.fine,.int .i64 x.dflt,.bool x.snap,.slice ro x.pY.length bD],.slice po n jr,.int .i64 size] w fun e w'=>e=.returned (.int .i64 (kG size pre x))∧Below w.heap.size w w':=by
 subst hn;exact Dy size pre x po jr ro bD w hp hpl hpf hr hf
theorem Lr {size:Int} {l:List jy} {k:Nat} (h:∀j (hj:j<l.length),j<k→kG size (l.take j) l[j]=0) (hf:∀x∈l,uR x):∀q∈l.take k,0≤q.fine∧q.name.size≤maxLen:=by
 intro q hq;obtain ⟨j,hj,rfl⟩:=List.getElem_of_mem hq;rw [List.length_take] at hj;rw [List.getElem_take];have h1:=h j (by omega) (by omega);exact ⟨(mH (sZ h1).2.2.2.1).2.1.1,(hf _ (List.getElem_mem _)).2.2.2.2.1⟩
theorem zJ (p:Prf) (pv:Value) (w:World) (h:jI w.heap.size w pv p.iY) (hf:sK p) :
  Calls Tryz.prog 90 #[.agg #[.string p.name,.int .i64 p.size,pv]] w fun e w'=>e=.returned (.int .i64 (iI p))∧Below w.heap.size w w':=by
 obtain ⟨pn,pz,pl⟩:=p;obtain ⟨ao,cap,rfl⟩:=gQ h;simp only at *;have HG:=ah (jI.get h);have hcp:=FH h;have HPS:=ah (fun W (hb:Below w.heap.size w W)=>(h.below hb).more hb.size);have HF:=ah hf.2.2;have qJ:=ah hf.2.1;have eZ:=ah (show iI ⟨pn,pz,pl⟩=if !eU pn.data.toList then 5 else if !bW pz 1 512 then 1 else if pl.length=0 then 8 else if 40<pl.length then 2 else bQ (kG pz) pl 0 from rfl);clear h hf;generalize iI ⟨pn,pz,pl⟩=RES at *
 have KC:=ah (show ∀W,Below (w.heap.size+1) (w.alloc (.cells #[.string pn,.int .i64 pz,.slice ao pl.length cap] 71)) W→(Below w.heap.size w W∧w.heap.size<W.heap.size∧W.cell? ⟨w.heap.size,0,none⟩=some (.string pn)∧W.cell? ⟨w.heap.size,1,none⟩=some (.int .i64 pz)∧W.cell? ⟨w.heap.size,2,none⟩=some (.slice ao pl.length cap)) from fun W hW=>by
  have hz:=hW.size;simp at hz;exact ⟨((Below.refl _ _).alloc (Nat.le_refl _) _).trans (hW.mono (by omega)),by omega,(hW.cell (p:=⟨w.heap.size,0,none⟩) (by simp)).trans (by simp [go_sem]),(hW.cell (p:=⟨w.heap.size,1,none⟩) (by simp)).trans (by simp [go_sem]),(hW.cell (p:=⟨w.heap.size,2,none⟩) (by simp)).trans (by simp [go_sem])⟩)
 have KA:=ah (show ∀W o,Below (w.heap.size+1) (w.alloc (.cells #[.string pn,.int .i64 pz,.slice ao pl.length cap] 71)) W→Below (w.heap.size+1) (w.alloc (.cells #[.string pn,.int .i64 pz,.slice ao pl.length cap] 71)) (W.alloc o) from fun W o h=>h.alloc (by have:=h.size;simp at this;omega) o);have KM:=ah (show ∀W W1,Below (w.heap.size+1) (w.alloc (.cells #[.string pn,.int .i64 pz,.slice ao pl.length cap] 71)) W→Below W.heap.size W W1→Below (w.heap.size+1) (w.alloc (.cells #[.string pn,.int .i64 pz,.slice ao pl.length cap] 71)) W1 from fun W W1 h1 h2=>h1.trans (h2.mono (by have:=h1.size;simp at this;omega)));have HB0:=ah (Below.refl (w.heap.size+1) (w.alloc (.cells #[.string pn,.int .i64 pz,.slice ao pl.length cap] 71)));go_enter Tryz.func90,Tryz.ntmps90;rcases Bool.eq_false_or_eq_true (eU pn.data.toList) with k0 | k0;rotate_left
 ·skip;have HV:=ah (show RES=5 by rw [eZ.out];simp [k0]);go_wp2_with (first | (go_at_call 45;((with_reducible refine (aR _ _ _ _).mono ?_);rintro e w' ⟨rfl,rfl⟩)) | (go_at_call 104;((with_reducible refine (dB _ _ (by exact qJ.out)).mono ?_);rintro e w' ⟨rfl,rfl⟩)) | fail);go_ret;exact ⟨by rw [HV.out]<;>rfl,(KC.out _ HB0.out).1⟩
 rcases Bool.eq_false_or_eq_true (bW pz 1 512) with k1 | k1;rotate_left
 ·skip;have HV:=ah (show RES=1 by rw [eZ.out];simp [k0,k1]);go_wp2_with (first | (go_at_call 45;((with_reducible refine (aR _ _ _ _).mono ?_);rintro e w' ⟨rfl,rfl⟩)) | (go_at_call 104;((with_reducible refine (dB _ _ (by exact qJ.out)).mono ?_);rintro e w' ⟨rfl,rfl⟩)) | fail);go_ret;exact ⟨by rw [HV.out]<;>rfl,(KC.out _ HB0.out).1⟩
 by_cases k2:pl.length=0
 ·have k4:(pl.length==0)=true:=by simpa using k2
  have k5:((pl.length:Int)==0)=true:=by simpa using k2
  have HV:=ah (show RES=8 by rw [eZ.out,if_pos k2];simp [k0,k1]);go_wp2_with (first | (go_at_call 45;((with_reducible refine (aR _ _ _ _).mono ?_);rintro e w' ⟨rfl,rfl⟩)) | (go_at_call 104;((with_reducible refine (dB _ _ (by exact qJ.out)).mono ?_);rintro e w' ⟨rfl,rfl⟩)) | fail);go_ret;exact ⟨by rw [HV.out]<;>rfl,by have h:=(KC.out _ HB0.out).1;simp only [k2] at h;exact h⟩
 have k4:(pl.length==0)=false:=by simpa using k2
 have k5:((pl.length:Int)==0)=false:=by simpa using k2
 by_cases k3:40<pl.length
 ·skip;have HV:=ah (show RES=2 by rw [eZ.out,if_neg k2,if_pos k3];simp [k0,k1]);go_wp2_with (first | (go_at_call 45;((with_reducible refine (aR _ _ _ _).mono ?_);rintro e w' ⟨rfl,rfl⟩)) | (go_at_call 104;((with_reducible refine (dB _ _ (by exact qJ.out)).mono ?_);rintro e w' ⟨rfl,rfl⟩)) | fail);go_ret;exact ⟨by rw [HV.out]<;>rfl,(KC.out _ HB0.out).1⟩
 have HC:=ah (show RES=bQ (kG pz) pl 0 by rw [eZ.out,if_neg k2,if_neg k3];simp [k0,k1]);go_wp2_with (first | (go_at_call 45;((with_reducible refine (aR _ _ _ _).mono ?_);rintro e w' ⟨rfl,rfl⟩)) | (go_at_call 104;((with_reducible refine (dB _ _ (by exact qJ.out)).mono ?_);rintro e w' ⟨rfl,rfl⟩)) | fail);clear eZ k0 k1 k2 k4 k5;go_loopw [29] (fun i wx=>∃k:Nat,k≤pl.length∧i=.int .i64 k∧Hid (RES=bQ (kG pz) pl k)∧Hid (∀j (hj:j<pl.length),j<k→kG pz (pl.take j) pl[j]=0)∧Hid (Below (w.heap.size+1) (w.alloc (.cells #[.string pn,.int .i64 pz,.slice ao pl.length cap] 71)) wx)) (fun i _=>pl.length-(intOf i).toNat)
 case atStart=>exact ⟨0,Nat.zero_le _,rfl,HC,ah (fun j _ h=>absurd h (Nat.not_lt_zero _)),HB0⟩
 case round=>
  clear HC HB0;obtain ⟨k,hk,rfl,gW,Ht,bA⟩:=hrel;obtain ⟨hB,hz,p0,p1,p2⟩:=KC.out wr bA.out;by_cases hlt:k<pl.length
  ·obtain ⟨b,off,cap',hsl,hb,_,hc⟩:=HG.out (by omega);injection hsl with hs1 hs2 hs3;subst hs1 hs3;obtain ⟨rv,tX,hcc⟩:=hc k hlt;obtain ⟨d0,d1,d2,d3,d4,d5,d6⟩:=hcc wr hB;obtain ⟨ro,bD,rfl,_⟩:=aW.shape tX;have hbr:b<wr.heap.size:=by have:=hB.size;omega
   have hfit:=HF.out _ (List.getElem_mem hlt);have qO:=ah (fun W (hb:Below w.heap.size w W)=>Iz pz (pl.take k) pl[k] k (by rw [List.length_take];omega) (some ⟨b,off,none⟩) cap ro bD W ((HPS.out W hb).take k (by omega)) (by omega) (Lr Ht.out HF.out) ((tX.below hb).more hb.size) hfit);have sN:=ah (fD (kG pz) pl k hlt);have iB:=ah (gD (kG pz) pl k hlt)
   have Eu:=ah (show kG pz (pl.take k) pl[k]=0→∀j (hj:j<pl.length),j<k+1→kG pz (pl.take j) pl[j]=0 from fun h j hj hjk=>by
    by_cases c:j=k
    ·subst c;exact h
    ·exact Ht.out j hj (by omega))
   generalize kG pz (pl.take k) pl[k]=FF at *;clear hc hcc tX hfit Ht hB;generalize kC:pl[k]=rk at *;clear kC;obtain ⟨xn,xg,xs,xf,xd,xb,xl⟩:=rk;simp only at *;have dI:=ah (KA.out _ (.cells #[.string xn,.int .i64 xg,.int .i64 xs,.int .i64 xf,.int .i64 xd,.bool xb,.slice ro xl.length bD] 81) bA.out);have KX:=ah (show ∀W,Below (wr.heap.size+1) (wr.alloc (.cells #[.string xn,.int .i64 xg,.int .i64 xs,.int .i64 xf,.int .i64 xd,.bool xb,.slice ro xl.length bD] 81)) W→W.cell? ⟨wr.heap.size,0,none⟩=some (.string xn)∧W.cell? ⟨wr.heap.size,1,none⟩=some (.int .i64 xg)∧W.cell? ⟨wr.heap.size,2,none⟩=some (.int .i64 xs)∧W.cell? ⟨wr.heap.size,3,none⟩=some (.int .i64 xf)∧W.cell? ⟨wr.heap.size,4,none⟩=some (.int .i64 xd)∧W.cell? ⟨wr.heap.size,5,none⟩=some (.bool xb)∧W.cell? ⟨wr.heap.size,6,none⟩=some (.slice ro xl.length bD) from fun W hW=>⟨(hW.cell (p:=⟨wr.heap.size,0,none⟩) (by simp)).trans (by simp [go_sem]),(hW.cell (p:=⟨wr.heap.size,1,none⟩) (by simp)).trans (by simp [go_sem]),(hW.cell (p:=⟨wr.heap.size,2,none⟩) (by simp)).trans (by simp [go_sem]),(hW.cell (p:=⟨wr.heap.size,3,none⟩) (by simp)).trans (by simp [go_sem]),(hW.cell (p:=⟨wr.heap.size,4,none⟩) (by simp)).trans (by simp [go_sem]),(hW.cell (p:=⟨wr.heap.size,5,none⟩) (by simp)).trans (by simp [go_sem]),(hW.cell (p:=⟨wr.heap.size,6,none⟩) (by simp)).trans (by simp [go_sem])⟩);have KXM:=ah (show ∀W W1,Below (wr.heap.size+1) (wr.alloc (.cells #[.string xn,.int .i64 xg,.int .i64 xs,.int .i64 xf,.int .i64 xd,.bool xb,.slice ro xl.length bD] 81)) W→Below W.heap.size W W1→Below (wr.heap.size+1) (wr.alloc (.cells #[.string xn,.int .i64 xg,.int .i64 xs,.int .i64 xf,.int .i64 xd,.bool xb,.slice ro xl.length bD] 81)) W1 from fun W W1 h1 h2=>h1.trans (h2.mono (by have:=h1.size;simp at this;omega)));go_upto_region 12 with fail;obtain ⟨_,hz0,q0,q1,q2⟩:=KC.out _ dI.out;go_cut [5] (fun s5 wx=>s5=.int .i64 FF∧Below (w.heap.size+1) (w.alloc (.cells #[.string pn,.int .i64 pz,.slice (some ⟨b,off,none⟩) pl.length cap] 71)) wx)
   case first=>
    have hw0:Below (wr.heap.size+1) (wr.alloc (.cells #[.string xn,.int .i64 xg,.int .i64 xs,.int .i64 xf,.int .i64 xd,.bool xb,.slice ro xl.length bD] 81)) (wr.alloc (.cells #[.string xn,.int .i64 xg,.int .i64 xs,.int .i64 xf,.int .i64 xd,.bool xb,.slice ro xl.length bD] 81)):=Below.refl _ _;have hw1:Below (wr.heap.size+1) (wr.alloc (.cells #[.string xn,.int .i64 xg,.int .i64 xs,.int .i64 xf,.int .i64 xd,.bool xb,.slice ro xl.length bD] 81)) (wr.alloc (.cells #[.string xn,.int .i64 xg,.int .i64 xs,.int .i64 xf,.int .i64 xd,.bool xb,.slice ro xl.length bD] 81)).drew:=(Below.refl _ _).drew;have hx0:=dI.out;have hx1:Below (w.heap.size+1) (w.alloc (.cells #[.string pn,.int .i64 pz,.slice (some ⟨b,off,none⟩) pl.length cap] 71)) (wr.alloc (.cells #[.string xn,.int .i64 xg,.int .i64 xs,.int .i64 xf,.int .i64 xd,.bool xb,.slice ro xl.length bD] 81)).drew:=dI.out.drew;have hi1:(0:Int)≤(k:Int):=by omega
    have hi2:(k:Int)≤(cap:Int):=by omega
    have hi3:k≤cap:=by omega
    obtain ⟨_,hzd,qd0,qd1,qd2⟩:=KC.out _ hx1
    go_region_held3 (fun W=>(W.cell? ⟨wr.heap.size,0,none⟩=some (.string xn)∧W.cell? ⟨wr.heap.size,1,none⟩=some (.int .i64 xg)∧W.cell? ⟨wr.heap.size,2,none⟩=some (.int .i64 xs)∧W.cell? ⟨wr.heap.size,3,none⟩=some (.int .i64 xf)∧W.cell? ⟨wr.heap.size,4,none⟩=some (.int .i64 xd)∧W.cell? ⟨wr.heap.size,5,none⟩=some (.bool xb)∧W.cell? ⟨wr.heap.size,6,none⟩=some (.slice ro xl.length bD))∧W.cell? ⟨w.heap.size,1,none⟩=some (.int .i64 pz)∧W.cell? ⟨w.heap.size,2,none⟩=some (.slice (some ⟨b,off,none⟩) pl.length cap))
     (first | exact ⟨KX.out _ (by assumption),q1,q2⟩ | exact ⟨KX.out _ (by assumption),qd1,qd2⟩ | exact ⟨KX.out _ (by assumption),(KC.out _ (by assumption)).2.2.2⟩)
     (first
      | (go_at_call 105;(with_reducible refine (qO.out _ (KC.out _ (by assumption)).1).mono ?_);rintro e WC ⟨rfl,hbC⟩;have MV:=KM.out _ _ (by assumption) hbC;have hwX:=KXM.out _ _ (by assumption) hbC;clear hbC)
      | fail)
    all_goals go_wp2_with fail
    all_goals go_meet
    all_goals exact ⟨rfl,by assumption⟩
   case rest=>
    obtain ⟨rfl,hbc⟩:=hcut;have kr:=ah hbc;clear hbc qO KXM q0 q1 q2 d0 d1 d2 d3 d4 d5 d6 p0 p1 p2 KX;by_cases hE:FF=0
    ·have HV:=ah (show RES=bQ (kG pz) pl (k+1) by rw [gW.out,sN.out hE]);have JV:=ah (Eu.out hE);clear Eu sN iB dI bA;subst hE;go_wp2_with fail;go_roundw
     case rel=>exact ⟨k+1,by omega,by go_num,HV,JV,kr⟩
     case measure=>simp [intOf];omega
    ·have HV:=ah (show RES=FF by rw [gW.out,iB.out hE]);clear Eu sN iB dI bA;go_wp2_with fail;go_ret;exact ⟨by rw [HV.out]<;>rfl,(KC.out _ kr.out).1⟩
  ·have HV:=ah (show RES=0 by rw [gW.out,gB (kG pz) pl k (by omega)]);have HBO:=ah hB;have hkk:k=pl.length:=by omega
   clear hB;subst hkk;go_wp2_with fail;go_ret;exact ⟨by rw [HV.out]<;>rfl,HBO.out⟩
theorem zK (v:Value) (l:List Prf) (w:World) (h:jD w.heap.size w v l) (hf:∀p∈l,sK p) :
  Calls Tryz.prog 56 #[v] w fun e w'=>e=.returned (.int .i64 (eY l))∧Below w.heap.size w w':=by
 have HG:=ah (jD.get h);have HF:=ah hf;obtain ⟨ao,cap,rfl⟩:=iH h;have hcp:=Pw h;clear h hf;have uV:=ah (show eY l=if 60<l.length then 2 else bQ nR l 0 from rfl);generalize eY l=RES at *;go_enter Tryz.func56,Tryz.ntmps56;by_cases Jm:60<l.length
 ·have HV:=ah (show RES=2 by rw [uV.out,if_pos Jm]);go_wp2_with fail;go_ret;exact ⟨by rw [HV.out]<;>rfl,Below.refl _ _⟩
 have HC:=ah (show RES=bQ nR l 0 by rw [uV.out,if_neg Jm]);have h31:l.length≤60:=by omega
 clear uV Jm;go_wp2_with fail;go_loopw [13] (fun i wx=>∃k:Nat,k≤l.length∧i=.int .i64 k∧Hid (RES=bQ nR l k)∧Hid (Below w.heap.size w wx)) (fun i _=>l.length-(intOf i).toNat)
 case atStart=>exact ⟨0,Nat.zero_le _,rfl,HC,ah (Below.refl _ _)⟩
 case round=>
  clear HC;obtain ⟨k,hk,rfl,gW,bA⟩:=hrel;obtain ⟨wo,rfl⟩:∃wo:World,wo=wr:=⟨_,rfl⟩;have yP:=bA.out.size;by_cases hlt:k<l.length
  ·obtain ⟨b,off,cap',hsl,hb,_,hc⟩:=HG.out (by omega);injection hsl with hs1 hs2 hs3;subst hs1 hs3;obtain ⟨pv,hpv,hcc⟩:=hc k hlt;obtain ⟨d0,d1,d2⟩:=hcc wo bA.out;have HRW:=ah hc;have hbr:b<wo.heap.size:=by omega
   have hfit:=HF.out _ (List.getElem_mem hlt);have HCP:=ah (fun W (hW:Below w.heap.size w W)=>zJ l[k] pv W ((hpv.below hW).more hW.size) hfit);have sN:=ah (fD nR l k hlt);have iB:=ah (gD nR l k hlt);have eZ:=ah (show nR (l.take k) l[k]=if iI l[k]≠0 then iI l[k] else if l[k].nm∈(l.take k).map Prf.nm then 6 else 0 from rfl);generalize nR (l.take k) l[k]=FF at *;generalize iI l[k]=E at *;have hnm:l[k].nm=l[k].name.data.toList:=rfl;rw [hnm] at eZ;obtain ⟨po,jr,rfl⟩:=gQ hpv;clear hnm hc hcc hfit hpv HG;generalize kC:l[k]=rk at *;clear kC;obtain ⟨pn,pz,pl⟩:=rk;simp only at *;have dI:=ah (bA.out.alloc yP (.cells #[.string pn,.int .i64 pz,.slice po pl.length jr] 71));have qO:=ah (HCP.out _ dI.out);clear HCP;go_wp2_with fail;refine qO.out.mono ?_;rintro e wc ⟨rfl,hbc⟩;simp only [World.size_alloc] at hbc;have hzc:=hbc.size;simp only [World.size_alloc] at hzc;have kr:=ah (dI.out.trans (hbc.mono (by omega)));have e0:wc.cell? ⟨wo.heap.size,0,none⟩=some (.string pn):=(hbc.cell (p:=⟨wo.heap.size,0,none⟩) (by simp)).trans (by simp [go_sem]);have Cn:w.heap.size<wc.heap.size:=by omega
   clear hbc qO d0 d1 d2 dI bA;by_cases hE:E=0;rotate_left
   ·skip;have HE:FF=E:=by rw [eZ.out];simp [hE]
    have HV:=ah (show RES=E by rw [gW.out,iB.out (by rw [HE];first | decide | exact hE),HE]);clear HE;go_wp2_with fail;go_ret;exact ⟨by rw [HV.out]<;>rfl,kr.out⟩
   have HFG:=ah (show FF=if pn.data.toList∈(l.take k).map Prf.nm then 6 else 0 by rw [eZ.out,hE];rfl);clear eZ;subst hE;go_wp2_with fail;generalize hnl:pn.data.toList=nl at *;go_loopw [27] (fun i wx=>∃j:Nat,j≤k∧i=.int .i64 j∧Hid (nl∉(l.take j).map Prf.nm)∧Hid (Below wc.heap.size wc wx)) (fun i _=>k-(intOf i).toNat)
   case atStart=>exact ⟨0,Nat.zero_le _,rfl,ah (by simp),ah (Below.refl _ _)⟩
   case round=>
    obtain ⟨j,hj,rfl,xU,vW⟩:=hrel;have hzi:=vW.out.size;have e3:wr.cell? ⟨wo.heap.size,0,none⟩=some (.string pn):=(vW.out.cell (p:=⟨wo.heap.size,0,none⟩) (by simp;omega)).trans e0;have hbi:b<wr.heap.size:=by omega
    have hor:wo.heap.size<wr.heap.size:=by omega
    have hwB:Below w.heap.size w wr:=kr.out.trans (vW.out.mono (by omega));by_cases hjlt:j<k
    ·obtain ⟨rv,tX,hcc⟩:=HRW.out j (by omega);obtain ⟨d0,d1,d2⟩:=hcc wr hwB;obtain ⟨yo,H8,rfl⟩:=gQ tX;have xV:=ah (yj Prf.nm l k j (by omega) hjlt nl);have RX:=ah (qw Prf.nm l j (by omega) nl xU.out);have hnm:l[j].nm=l[j].name.data.toList:=rfl;rw [hnm] at xV RX;have Dc:=ah hwB;clear hnm xU hcc tX hwB;generalize kC:l[j]'(by omega)=rk at *;clear kC;obtain ⟨yn,yz,yl⟩:=rk;simp only at *;have dI:=ah (vW.out.alloc hzi (.cells #[.string yn,.int .i64 yz,.slice yo yl.length H8] 71));by_cases he:yn.data.toList=nl
     ·have hin:=xV.out he;have h2:(yn.toList==pn.toList)=true:=by rw [Lib.toList_data,Lib.toList_data,hnl];simpa using he
      have HE:FF=6:=by rw [HFG.out,if_pos hin]
      have HV:=ah (show RES=6 by rw [gW.out,iB.out (by rw [HE];decide),HE]);have HWC:=ah (kr.out.trans (dI.out.mono (by omega)));clear HE;go_wp2_with fail;go_ret;exact ⟨by rw [HV.out]<;>rfl,HWC.out⟩
     ·have h2:(yn.toList==pn.toList)=false:=by rw [Lib.toList_data,Lib.toList_data,hnl];simpa using he
      have HV:=ah (RX.out he);clear he xV RX;go_wp2_with fail;go_roundw
      case rel=>exact ⟨j+1,by omega,by go_num,HV,dI⟩
      case measure=>simp [intOf];omega
    ·have hjk:j=k:=by omega
     subst hjk;have HE:FF=0:=by rw [HFG.out,if_neg xU.out]
     have HV:=ah (show RES=bQ nR l (j+1) by rw [gW.out,sN.out HE]);have EI:=ah hwB;clear HE xU hwB;go_wp2_with fail;go_roundw
     case rel=>exact ⟨j+1,by omega,by go_num,HV,EI⟩
     case measure=>simp [intOf];omega
  ·have HV:=ah (show RES=0 by rw [gW.out,gB nR l k (by omega)]);have hkk:k=l.length:=by omega
   subst hkk;go_wp2_with fail;go_ret;exact ⟨by rw [HV.out]<;>rfl,bA.out⟩
def iT (l:List gX) (n:Int):Nat:=(l.takeWhile (fun u=>decide (u.num<n))).length
def yG (l:List gX) (n:Int):Bool:=l.any (fun u=>decide (u.num=n))
def kK (n:Int) (u:gX):Bool:=decide (u.num=n)
def Ga (l:List gX) (n:Int):Int:=fQ (kK n) l 0
def N8 (l:List gX):Prop:=∀i j (hi:i<l.length) (hj:j<l.length),i<j→l[i].num<l[j].num
theorem DI (n:Int):∀(l:List gX) (i:Nat) (h:i<l.length),i<iT l n→l[i].num<n
 | [],i,h,_=>absurd h (by simp)
 | u::l,i,h,hp=>by
  by_cases c:u.num<n
  ·have h1:iT (u::l) n=iT l n+1:=by simp [iT,List.takeWhile_cons,c]
   cases i with
   | zero=>exact c
   | succ i=>exact DI n l i (by simpa using h) (by omega)
  ·have h1:iT (u::l) n=0:=by simp [iT,List.takeWhile_cons,c]
   omega
theorem DJ (n:Int):∀(l:List gX) (h:iT l n<l.length),n≤(l[iT l n]'h).num
 | [],h=>absurd h (by simp)
 | u::l,h=>by
  by_cases c:u.num<n
  ·have h1:iT (u::l) n=iT l n+1:=by simp [iT,List.takeWhile_cons,c]
   have h2:iT l n<l.length:=by rw [h1] at h;simpa using h
   have h3:=DJ n l h2;simp only [h1,List.getElem_cons_succ];exact h3
  ·have h1:iT (u::l) n=0:=by simp [iT,List.takeWhile_cons,c]
   simp only [h1,List.getElem_cons_zero];omega
theorem Ky {l:List gX} (h:N8 l) (n:Int):yG l n=true↔∃hp:iT l n<l.length,(l[iT l n]'hp).num=n:=by
 constructor
 ·intro h1;obtain ⟨u,hu,h2⟩:=List.any_eq_true.1 h1;simp at h2;obtain ⟨i,hi,rfl⟩:=List.getElem_of_mem hu;have h3:¬i<iT l n:=fun c=>by have:=DI n l i hi c;omega
  have h4:¬iT l n<i:=fun c=>by
   have h5:=DJ n l (by omega);have:=h (iT l n) i (by omega) hi c;omega
  have h6:iT l n=i:=by omega
  subst h6;exact ⟨hi,h2⟩
 ·rintro ⟨hp,h1⟩;exact List.any_eq_true.2 ⟨_,List.getElem_mem hp,by simpa using h1⟩
theorem F9 {l:List gX} (h:N8 l) (n:Int):(yG l n=true→Ga l n=(iT l n:Int))∧(yG l n=false→Ga l n=-1):=by
 rcases lC (kK n) l with ⟨h1,h2⟩ | ⟨k,hk,h1,h2⟩
 ·refine ⟨fun c=>?_,fun _=>h1⟩;obtain ⟨hp,h3⟩:=(Ky h n).1 c;have:=List.find?_eq_none.1 h2 _ (List.getElem_mem hp);simp [kK] at this;exact absurd h3 this
 ·have h3:l[k].num=n:=by simpa [kK] using List.find?_some h2
  refine ⟨fun _=>?_,fun c=>?_⟩
  ·have h4:¬k<iT l n:=fun d=>by have:=DI n l k hk d;omega
   have h5:¬iT l n<k:=fun d=>by
    have h6:=DJ n l (by omega);have:=h (iT l n) k (by omega) hk d;omega
   have h7:iT l n=k:=by omega
   rw [h7];exact h1
  ·have:yG l n=true:=List.any_eq_true.2 ⟨_,List.getElem_mem hk,by simpa using h3⟩;rw [this] at c;cases c
theorem xM {r:iK} (h:bR r=0):N8 r.aF:=by
 obtain ⟨_,_,h3⟩:=jk h
 have step:∀k,∀hk:k+1<r.aF.length,r.aF[k].num<r.aF[k+1].num:=by
  intro k hk;have h4:=(mQ (fP _ _ h3 (k+1) hk)).2.1;unfold kD at h4;rw [oU r.aF (k+1) hk (by omega)] at h4;simp at h4;exact h4
 have less:∀i d,∀hj:i+1+d<r.aF.length,r.aF[i].num<(r.aF[i+1+d]'hj).num:=by
  intro i d
  induction d with
  | zero=>intro hj;exact step i hj
  | succ d ih=>intro hj;exact Int.lt_trans (ih (by omega)) (step (i+1+d) hj)
 intro i j hi hj hij;obtain ⟨d,rfl⟩:∃d,j=i+1+d:=⟨j-(i+1),by omega⟩;exact less i d hj
theorem MB {r:iK} (h:bR r=0) {u:gX} (hu:u∈r.aF):1≤u.num∧u.num≤9999:=by
 obtain ⟨_,_,h3⟩:=jk h;obtain ⟨k,hk,rfl⟩:=List.getElem_of_mem hu;exact (mQ (fP _ _ h3 k hk)).1
theorem LP (x:iK) (lv uv:Value) (n:Int) (w:World) (h:kV w.heap.size w x lv uv) :
  Calls Tryz.prog 75 #[mG lv uv,.int .i64 n] w fun e w'=>e=.returned (.int .i64 (Ga x.aF n))∧Below w.heap.size w w':=by
 have HG:=ah (qH.get h.aF);obtain ⟨uo,dR,rfl,_⟩:=aW.shape h.aF;obtain ⟨lo,dU,rfl⟩:=iH h.lib;have hm:=yZ h.aF;have HC:=ah (show Ga x.aF n=fQ (kK n) (x.aF.drop 0) 0 by simp [Ga]);unfold mG;clear h;generalize Ga x.aF n=RES at *;obtain ⟨lib,aF⟩:=x;simp only at *;go_enter Tryz.func75,Tryz.ntmps75;go_wp2_with fail;go_loopw [10] (fun i wx=>∃k:Nat,k≤aF.length∧i=.int .i64 k∧Hid (RES=fQ (kK n) (aF.drop k) k)∧Hid (Below w.heap.size w wx)) (fun i _=>aF.length-(intOf i).toNat)
 case atStart=>exact ⟨0,Nat.zero_le _,rfl,HC,ah ((Below.refl _ _).alloc (Nat.le_refl _) _)⟩
 case round=>
  obtain ⟨k,hk,rfl,HR,bA⟩:=hrel;by_cases hlt:k<aF.length
  ·obtain ⟨b,off,cap',hsl,hb,_,hc⟩:=HG.out (by omega);injection hsl with hs1 hs2 hs3;subst hs1 hs3;obtain ⟨d0,d1,d2,d3⟩:=hc k hlt wr bA.out;have hbr:b<wr.heap.size:=by have:=bA.out.size;omega
   have HY:=ah (oV (kK n) aF k hlt);have HN:=ah (tu (kK n) aF k hlt);have HT:=ah (show kK n aF[k]=decide (aF[k].num=n) from rfl);clear hc;generalize kK n aF[k]=T at *;generalize kC:aF[k]=rk at *;clear kC;obtain ⟨un,up,uu,ua⟩:=rk;simp only at *;have dI:=ah (bA.out.alloc (bA.out.size) (.cells #[.int .i64 un,.string up,.int .i64 uu,.int .i64 ua] 67));by_cases he:un=n
   ·have h2:(un==n)=true:=by simpa using he
    have HV:=ah (HR.out.trans (HY.out (by rw [HT.out];simpa using he)));clear HT HN he;go_wp2_with fail;go_ret;exact ⟨by rw [HV.out]<;>rfl,dI.out⟩
   ·have h2:(un==n)=false:=by simpa using he
    have HV:=ah (HR.out.trans (HN.out (by rw [HT.out];simpa using he)));clear HT HY he;go_wp2_with fail;go_roundw
    case rel=>exact ⟨k+1,by omega,by go_num,HV,dI⟩
    case measure=>simp [intOf];omega
  ·have HV:=ah (show RES=-1 by rw [HR.out,oW _ aF k (by omega)]);have hkk:k=aF.length:=by omega
   subst hkk;go_wp2_with fail;go_ret;exact ⟨by rw [HV.out]<;>rfl,bA.out⟩
theorem AX (B:Nat) (v:Value) (l:List Prf) (nm:ByteArray) (w:World) (hBw:B≤w.heap.size) (h:jD B w v l) :
  Calls Tryz.prog 57 #[v,.string nm] w fun e w'=>∃pv,e=.returned (.tuple #[pv,.bool (cZ l nm.data.toList).isSome])∧Bo B w' (cZ l nm.data.toList) pv∧Below w.heap.size w w':=by
 have HG:=ah (jD.get h);obtain ⟨ao,cap,rfl⟩:=iH h
 have hm:l.length≤9223372036854775807:=by
  by_cases c:0<l.length
  ·obtain ⟨_,_,_,_,_,hm,_⟩:=jD.get h c;unfold maxLen at hm;exact hm
  ·omega
 have HS:=ah (lC (dK nm.data.toList) l)
 have yT:=ah (show (fQ (dK nm.data.toList) l 0=-1→cZ l nm.data.toList=none)∧∀(k:Nat) (h:k<l.length),fQ (dK nm.data.toList) l 0=(k:Int)→cZ l nm.data.toList=some l[k] from by
  rcases HS.out with ⟨h1,h2⟩ | ⟨k,hk,h1,h2⟩
  ·exact ⟨fun _=>h2,fun k hk h=>by rw [h1] at h;omega⟩
  ·refine ⟨fun h=>by rw [h1] at h;omega,fun j hj h=>?_⟩;rw [h1] at h;have:j=k:=by omega
   subst this;exact h2)
 have HC:=ah (show fQ (dK nm.data.toList) l 0=fQ (dK nm.data.toList) (l.drop 0) 0 by simp);generalize fQ (dK nm.data.toList) l 0=IX at *;generalize hPO:cZ l nm.data.toList=PO at *;clear hPO HS h;go_enter Tryz.func57,Tryz.ntmps57;go_wp2_with fail;go_loopw [10] (fun i wr=>∃k:Nat,k≤l.length∧i=.int .i64 k∧Hid (IX=fQ (dK nm.data.toList) (l.drop k) k)∧Hid (Below (w.heap.size+1) (w.alloc (.cells #[.string ⟨#[]⟩,.int .i64 0,.slice none 0 0] 71)) wr)) (fun i _=>l.length-(intOf i).toNat)
 case atStart=>exact ⟨0,Nat.zero_le _,rfl,HC,ah (Below.refl _ _)⟩
 case round=>
  obtain ⟨k,hk,rfl,HR,bA⟩:=hrel;have Oc:=bA.out.size;simp only [World.size_alloc] at Oc;have Gf:Below w.heap.size w wr:=((Below.refl _ _).alloc (Nat.le_refl _) _).trans (bA.out.mono (by omega));have z0:wr.cell? ⟨w.heap.size,0,none⟩=some (.string ⟨#[]⟩):=(bA.out.cell (p:=⟨w.heap.size,0,none⟩) (by simp)).trans (by simp [go_sem]);have z1:wr.cell? ⟨w.heap.size,1,none⟩=some (.int .i64 0):=(bA.out.cell (p:=⟨w.heap.size,1,none⟩) (by simp)).trans (by simp [go_sem]);have z2:wr.cell? ⟨w.heap.size,2,none⟩=some (.slice none 0 0):=(bA.out.cell (p:=⟨w.heap.size,2,none⟩) (by simp)).trans (by simp [go_sem]);have y0:wr.frozen? ⟨w.heap.size,0,none⟩=false:=(bA.out.frozen (p:=⟨w.heap.size,0,none⟩) (by simp)).trans (by simp [go_sem]);have y1:wr.frozen? ⟨w.heap.size,1,none⟩=false:=(bA.out.frozen (p:=⟨w.heap.size,1,none⟩) (by simp)).trans (by simp [go_sem]);have y2:wr.frozen? ⟨w.heap.size,2,none⟩=false:=(bA.out.frozen (p:=⟨w.heap.size,2,none⟩) (by simp)).trans (by simp [go_sem]);have hwr:w.heap.size<wr.heap.size:=by omega
  have GY:=ah (show ∀W,Below w.heap.size w W→∀u0 u1 u2,Below w.heap.size w (((W.setCell ⟨w.heap.size,0,none⟩ u0).setCell ⟨w.heap.size,1,none⟩ u1).setCell ⟨w.heap.size,2,none⟩ u2) from fun W hW u0 u1 u2=>((hW.setCell (p:=⟨w.heap.size,0,none⟩) (by simp) u0).setCell (p:=⟨w.heap.size,1,none⟩) (by simp) u1).setCell (p:=⟨w.heap.size,2,none⟩) (by simp) u2);by_cases hlt:k<l.length
  ·obtain ⟨b,off,cap',hsl,hbb,_,hc⟩:=HG.out (by omega);injection hsl with hs1 hs2 hs3;subst hs1 hs3;obtain ⟨pv,hpv,hcc⟩:=hc k hlt;obtain ⟨d0,d1,d2⟩:=hcc wr (Gf.mono hBw);have NW:=ah hpv;have hbr:b<wr.heap.size:=by omega
   have HY:=ah (oV (dK nm.data.toList) l k hlt);have HN:=ah (tu (dK nm.data.toList) l k hlt);have HT:=ah (show dK nm.data.toList l[k]=decide (l[k].name.data.toList=nm.data.toList) from rfl);have HPS:=ah (yT.out.2 k hlt);obtain ⟨po,jr,rfl⟩:=gQ hpv;have nM:=ah Gf;clear hc hcc hpv yT Gf;generalize dK nm.data.toList l[k]=T at *;generalize kC:l[k]=rk at *;clear kC;obtain ⟨pn,pz,pl⟩:=rk;simp only at *;by_cases he:pn.data.toList=nm.data.toList
   ·have h2:(pn.toList==nm.toList)=true:=by rw [Lib.toList_data,Lib.toList_data];simpa using he
    have HV:=ah (HPS.out (HR.out.trans (HY.out (by rw [HT.out];simpa using he))));clear he;have yC:PO=some ⟨pn,pz,pl⟩:=HV.out;go_wp2_with fail;exact bodyPost_ret (v:=.tuple #[.agg #[.string pn,.int .i64 pz,.slice po pl.length jr],.bool true]) (by simp [results,Tryz.results57,go_sem,z0,z1,z2,hwr]) rfl ⟨_,by rw [HV.out]<;>rfl,by rw [HV.out];exact ⟨_,rfl,NW.out.below (((GY.out _ nM.out _ _ _).alloc (by simp;omega) _).mono hBw)⟩,(GY.out _ nM.out _ _ _).alloc (by simp;omega) _⟩
   ·have h2:(pn.toList==nm.toList)=false:=by rw [Lib.toList_data,Lib.toList_data];simpa using he
    have HV:=ah (HR.out.trans (HN.out (by rw [HT.out];simpa using he)));clear he;have vV:=ah (bA.out.alloc (by omega) (.cells #[.string pn,.int .i64 pz,.slice po pl.length jr] 71));go_wp2_with fail;go_roundw
    case rel=>exact ⟨k+1,by omega,by go_num,HV,vV⟩
    case measure=>simp [intOf];omega
  ·have HV:=ah (yT.out.1 (by rw [HR.out,oW _ l k (by omega)]));have nM:=ah Gf;clear Gf;have hkk:k=l.length:=by omega
   subst hkk;go_wp2_with fail;exact bodyPost_ret (v:=.tuple #[.agg #[.string ⟨#[]⟩,.int .i64 0,.slice none 0 0],.bool false]) (by simp [results,Tryz.results57,go_sem,z0,z1,z2]) rfl ⟨_,by rw [HV.out]<;>rfl,by rw [HV.out];rfl,GY.out _ nM.out _ _ _⟩
def jZ (nm:List UInt8) (p:jy):Bool:=decide (p.nm=nm)
def kU (l:List jy) (nm:List UInt8):Option jy:=l.find? (jZ nm)
def Er (B:Nat) (w:World) (o:Option jy) (v:Value):Prop:=
 match o with
 | some p=>∃rv,v=.agg #[.string p.name,.int .i64 p.Oh,.int .i64 p.sl,.int .i64 p.fine,.int .i64 p.dflt,.bool p.snap,rv]∧nL B w rv p.pY
 | none=>v=.agg #[.string ⟨#[]⟩,.int .i64 0,.int .i64 0,.int .i64 0,.int .i64 0,.bool false,.slice none 0 0]
theorem Er.below {B:Nat} {w w':World} {o:Option jy} {v:Value} (h:Er B w o v) (hb:Below B w w'):Er B w' o v:=by
 cases o with
 | none=>exact h
 | some p=>
  obtain ⟨pv,h1,h2⟩:=h;exact ⟨pv,h1,h2.below hb⟩
theorem qj {B:Nat} {w:World} {v:Value} {l:List uj} (h:nL B w v l):∃ao cap,v=.slice ao l.length cap:=by
 obtain ⟨ao,cap,rfl,_⟩:=aW.shape h;exact ⟨ao,cap,rfl⟩
theorem uI {B:Nat} {w:World} {o:Option jy} {v:Value} (h:Er B w o v):∃qn qg qs qf qd qb qo ql qc,v=.agg #[.string qn,.int .i64 qg,.int .i64 qs,.int .i64 qf,.int .i64 qd,.bool qb,.slice qo ql qc]:=by
 cases o with
 | none=>exact ⟨_,_,_,_,_,_,_,_,_,h⟩
 | some p=>
  obtain ⟨pv,rfl,hp⟩:=h;obtain ⟨ao,cap,rfl⟩:=qj hp;exact ⟨_,_,_,_,_,_,_,_,_,rfl⟩
end Go.Proofs.YtopmdeefcjdadaaGreat
