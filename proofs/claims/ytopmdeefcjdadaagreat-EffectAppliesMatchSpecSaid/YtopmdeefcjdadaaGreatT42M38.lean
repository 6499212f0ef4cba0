import Derived.Test.YtopmdeefcjdadaaGreatT42M19
import Derived.Test.YtopmdeefcjdadaaGreatT42M37
set_option maxRecDepth 100000
set_option maxHeartbeats 32000000
namespace Go.Proofs.YtopmdeefcjdadaaGreat
open Go.RowKit
theorem Fh (x:iK) (lv uv:Value) (l:List dM) (sv:Value) (w:World) (h:kV w.heap.size w x lv uv) (hx:bR x=0) (hS:lH w.heap.size w sv l) (hs:∀s∈l,sJ s) :
  Calls Tryz.prog 21 #[mG lv uv,sv] w fun e w'=>e=.returned (.int .i64 (dF x l))∧Below w.heap.size w w':=by
 have CF:=ah (fun (n:Int) (nm:ByteArray) W (hb:Below w.heap.size w W) (hn:pK n)=>wP x lv uv w.heap.size n nm W hb.size (h.below hb) hx hn);have HG:=ah (lH.get hS);have hml:=aW.len hS;unfold maxLen at hml;have KV:=ah hs;obtain ⟨uo,dR,rfl,_⟩:=aW.shape h.aF;obtain ⟨lo,dU,rfl⟩:=iH h.lib;obtain ⟨so,cO,rfl,hsc,hsm⟩:=aW.shape hS;unfold maxLen at hsm;unfold mG at *;have HC:=ah (show dF x l=bQ (qX x) l 0 from rfl);clear h hS hs hx;generalize dF x l=RES at *
 have KC:=ah (show ∀W,Below (w.heap.size+1) (w.alloc (.cells #[.slice lo x.lib.length dU,.slice uo x.aF.length dR] 25)) W→(Below w.heap.size w W∧w.heap.size<W.heap.size∧W.cell? ⟨w.heap.size,0,none⟩=some (.slice lo x.lib.length dU)∧W.cell? ⟨w.heap.size,1,none⟩=some (.slice uo x.aF.length dR)) from fun W hW=>by
  have hz:=hW.size;simp at hz;exact ⟨((Below.refl _ _).alloc (Nat.le_refl _) _).trans (hW.mono (by omega)),by omega,(hW.cell (p:=⟨w.heap.size,0,none⟩) (by simp)).trans (by simp [go_sem]),(hW.cell (p:=⟨w.heap.size,1,none⟩) (by simp)).trans (by simp [go_sem])⟩)
 have KM:=ah (show ∀W W1,Below (w.heap.size+1) (w.alloc (.cells #[.slice lo x.lib.length dU,.slice uo x.aF.length dR] 25)) W→Below W.heap.size W W1→Below (w.heap.size+1) (w.alloc (.cells #[.slice lo x.lib.length dU,.slice uo x.aF.length dR] 25)) W1 from fun W W1 h1 h2=>h1.trans (h2.mono (by have:=h1.size;simp at this;omega)));have KA:=ah (show ∀W o,Below (w.heap.size+1) (w.alloc (.cells #[.slice lo x.lib.length dU,.slice uo x.aF.length dR] 25)) W→Below (w.heap.size+1) (w.alloc (.cells #[.slice lo x.lib.length dU,.slice uo x.aF.length dR] 25)) (W.alloc o) from fun W o h=>h.alloc (by have:=h.size;simp at this;omega) o);have HB0:=ah (Below.refl (w.heap.size+1) (w.alloc (.cells #[.slice lo x.lib.length dU,.slice uo x.aF.length dR] 25)));go_enter Tryz.func21,Tryz.ntmps21;go_wp2_with fail;go_loopw [13] (fun i wx=>∃k:Nat,k≤l.length∧i=.int .i64 k∧Hid (RES=bQ (qX x) l k)∧Hid (Below (w.heap.size+1) (w.alloc (.cells #[.slice lo x.lib.length dU,.slice uo x.aF.length dR] 25)) wx)) (fun i _=>l.length-(intOf i).toNat)
 case atStart=>exact ⟨0,Nat.zero_le _,rfl,HC,HB0⟩
 case round=>
  clear HC HB0;obtain ⟨k,hk,rfl,gW,bA⟩:=hrel;obtain ⟨wo,rfl⟩:∃wo:World,wo=wr:=⟨_,rfl⟩;obtain ⟨hB,hz,p0,p1⟩:=KC.out wo bA.out;by_cases hlt:k<l.length
  ·obtain ⟨b,off,cap',hsl,hb,_,hc⟩:=HG.out (by omega);injection hsl with hs1 hs2 hs3;subst hs1 hs3;obtain ⟨d0,d1,d2⟩:=hc k hlt wo hB;have HRW:=ah hc;have hbr:b<wo.heap.size:=by have:=hB.size;omega
   have HUI:=ah (KV.out _ (List.getElem_mem hlt)).1;have sN:=ah (fD (qX x) l k hlt);have iB:=ah (gD (qX x) l k hlt);have eZ:=ah (show qX x (l.take k) l[k]=if (gL x l[k].unit l[k].par.data.toList).isNone then 8 else if !bW l[k].lv 0 65535 then 1 else if (l.take k).any (isK (l[k].unit,l[k].par)) then 6 else 0 from rfl);generalize qX x (l.take k) l[k]=FF at *;clear hc hB;generalize kC:l[k]=rk at *;clear kC;obtain ⟨su,sp,sl⟩:=rk;simp only at *;have dI:=ah (KA.out _ (.cells #[.int .i64 su,.string sp,.int .i64 sl] 42) bA.out);have CX:=ah (CF.out su sp _ (KC.out _ dI.out).1 HUI.out);generalize gL x su sp.data.toList=PO at *;go_wp2_with fail;refine CX.out.mono ?_;rintro e w5 ⟨xv,rfl,hxr,hb5⟩;obtain ⟨qn,qg,qs,qf,qd,qb,qo,ql,qc,rfl⟩:=uI hxr;have hz5:=hb5.size;simp only [World.size_alloc] at hz5;have hwr5:wo.heap.size<w5.heap.size:=by omega
   have nU:=ah (KM.out _ _ dI.out hb5)
   have KU5:=ah (show ∀W,Below w5.heap.size w5 W→W.cell? ⟨wo.heap.size,0,none⟩=some (.int .i64 su)∧W.cell? ⟨wo.heap.size,1,none⟩=some (.string sp)∧W.cell? ⟨wo.heap.size,2,none⟩=some (.int .i64 sl) from fun W hW=>by
    have h:=hb5.trans (hW.mono (by simp;omega));exact ⟨(h.cell (p:=⟨wo.heap.size,0,none⟩) (by simp)).trans (by simp [go_sem]),(h.cell (p:=⟨wo.heap.size,1,none⟩) (by simp)).trans (by simp [go_sem]),(h.cell (p:=⟨wo.heap.size,2,none⟩) (by simp)).trans (by simp [go_sem])⟩)
   obtain ⟨f0,f1,f2⟩:=KU5.out _ (Below.refl _ _);have hnI:PO.isNone=!PO.isSome:=by cases PO<;>rfl
   rw [hnI] at eZ;generalize PO.isSome=IS at *;clear hb5 hxr CX dI bA hnI p0 p1 d0 d1 d2 hz;have tZ:=ah (KA.out _ (.cells #[.string qn,.int .i64 qg,.int .i64 qs,.int .i64 qf,.int .i64 qd,.bool qb,.slice qo ql qc] 81) nU.out);have hs6:wo.heap.size<(w5.alloc (.cells #[.string qn,.int .i64 qg,.int .i64 qs,.int .i64 qf,.int .i64 qd,.bool qb,.slice qo ql qc] 81)).heap.size:=by simp;omega
   have KU6:=ah (show ∀W,Below (w5.alloc (.cells #[.string qn,.int .i64 qg,.int .i64 qs,.int .i64 qf,.int .i64 qd,.bool qb,.slice qo ql qc] 81)).heap.size (w5.alloc (.cells #[.string qn,.int .i64 qg,.int .i64 qs,.int .i64 qf,.int .i64 qd,.bool qb,.slice qo ql qc] 81)) W→W.cell? ⟨wo.heap.size,0,none⟩=some (.int .i64 su)∧W.cell? ⟨wo.heap.size,1,none⟩=some (.string sp) from fun W hW=>by
    have h:=KU5.out W (((Below.refl _ _).alloc (Nat.le_refl _) _).trans (hW.mono (by simp)));exact ⟨h.1,h.2.1⟩)
   clear nU KU5;cases IS
   ·skip;have HE:FF=8:=by rw [eZ.out];rfl
    have HV:=ah (show RES=8 by rw [gW.out,iB.out (by rw [HE];decide),HE]);clear HE;go_wp2_with fail;go_ret;exact ⟨by rw [HV.out]<;>rfl,(KC.out _ tZ.out).1⟩
   rcases Bool.eq_false_or_eq_true (bW sl 0 65535) with k0 | k0;rotate_left
   ·skip;have HE:FF=1:=by rw [eZ.out];simp [k0]
    have HV:=ah (show RES=1 by rw [gW.out,iB.out (by rw [HE];decide),HE]);clear HE;go_wp2_with (first | (go_at_call 44;((with_reducible refine (bq _ _).mono ?_);rintro e w' ⟨rfl,rfl⟩)) | fail);go_ret;exact ⟨by rw [HV.out]<;>rfl,(KC.out _ tZ.out).1⟩
   have pO:=ah (show FF=if (l.take k).any (isK (su,sp)) then 6 else 0 by rw [eZ.out];simp [k0]);clear eZ;have eZ:=pO;clear pO;have hi1:(0:Int)≤(k:Int):=by omega
   have hi2:(k:Int)≤(cO:Int):=by omega
   have hi3:k≤cO:=by omega
   go_wp2_with (first | (go_at_call 44;((with_reducible refine (bq _ _).mono ?_);rintro e w' ⟨rfl,rfl⟩)) | fail);clear k0 f0 f1 f2;generalize hW6:w5.alloc (.cells #[.string qn,.int .i64 qg,.int .i64 qs,.int .i64 qf,.int .i64 qd,.bool qb,.slice qo ql qc] 81)=wd at *;clear hW6;go_loopw [35] (fun i wx=>∃j:Nat,j≤k∧i=.int .i64 j∧Hid ((l.take j).any (isK (su,sp))=false)∧Hid (Below wd.heap.size wd wx)) (fun i _=>k-(intOf i).toNat)
   case atStart=>exact ⟨0,Nat.zero_le _,rfl,ah (by simp),ah (Below.refl _ _)⟩
   case round=>
    obtain ⟨j,hj,rfl,xU,vW⟩:=hrel;have hzi:=vW.out.size;obtain ⟨e0,e1⟩:=KU6.out wr vW.out;have EI:=ah (KM.out _ _ tZ.out vW.out);have hor:wo.heap.size<wr.heap.size:=by omega
    have hbi:b<wr.heap.size:=by omega
    by_cases hjlt:j<k
    ·have hjl:j<l.length:=by omega
     obtain ⟨d0,d1,d2⟩:=HRW.out j hjl wr (KC.out _ EI.out).1;have vU:=ah (Gy (isK (su,sp)) l j hjl);have qO:=ah (Rz (isK (su,sp)) l k j hjl hjlt);have HCD:=ah (show isK (su,sp) l[j]=decide ((l[j].unit,l[j].par)=(su,sp)) from rfl);generalize isK (su,sp) l[j]=CJ at *;generalize kC:l[j]=rk at *;clear kC;obtain ⟨yu,yp,yl⟩:=rk;simp only at *;have dI:=ah (vW.out.alloc hzi (.cells #[.int .i64 yu,.string yp,.int .i64 yl] 42));have lM:=ah (KA.out _ (.cells #[.int .i64 yu,.string yp,.int .i64 yl] 42) EI.out);by_cases h1:yu=su
     ·by_cases h2:yp=sp
      ·have HCJ:=ah (show CJ=true by rw [HCD.out,h1,h2];simp);have HE:FF=6:=by rw [eZ.out];rw [qO.out HCJ.out];rfl
       have HV:=ah (show RES=6 by rw [gW.out,iB.out (by rw [HE];decide),HE]);clear HE;have h1':=Eq.symm h1;have h2':=Eq.symm h2;clear h1 h2;subst h1' h2';have h3:(sp.toList==sp.toList)=true:=by simp
       have qW:=ah (KC.out _ lM.out).1;go_wp2_with fail;go_ret;exact ⟨by rw [HV.out]<;>rfl,qW.out⟩
      ·have HCJ:=ah (show CJ=false by rw [HCD.out];simp [h2]);have h3:¬yp.toList=sp.toList:=fun h=>h2 (ByteArray.ext (Array.toList_inj.1 (by rw [←Lib.toList_data,←Lib.toList_data];exact h)));have h4:(yp.toList==sp.toList)=false:=beq_eq_false_iff_ne.2 h3;have h5:¬sp.toList=yp.toList:=fun h=>h3 h.symm;have h6:(sp.toList==yp.toList)=false:=beq_eq_false_iff_ne.2 h5;have h1':=Eq.symm h1;clear h1 h2;subst h1';have HV:=ah (show (l.take (j+1)).any (isK (su,sp))=false by rw [vU.out,xU.out,HCJ.out];rfl);go_wp2_with fail;go_roundw
       case rel=>exact ⟨j+1,by omega,by go_num,HV,dI⟩
       case measure=>simp [intOf];omega
     ·have HCJ:=ah (show CJ=false by rw [HCD.out];simp [h1]);have h7:(yu==su)=false:=by simpa using h1
      have HV:=ah (show (l.take (j+1)).any (isK (su,sp))=false by rw [vU.out,xU.out,HCJ.out];rfl);go_wp2_with fail;go_roundw
      case rel=>exact ⟨j+1,by omega,by go_num,HV,dI⟩
      case measure=>simp [intOf];omega
    ·have hjk:j=k:=by omega
     subst hjk;have HE:FF=0:=by rw [eZ.out,xU.out];rfl
     have HV:=ah (show RES=bQ (qX x) l (j+1) by rw [gW.out,sN.out HE]);clear HE xU;go_wp2_with fail;go_roundw
     case rel=>exact ⟨j+1,by omega,by go_num,HV,EI⟩
     case measure=>simp [intOf];omega
  ·have HV:=ah (show RES=0 by rw [gW.out,gB (qX x) l k (by omega)]);have HBO:=ah hB;have hkk:k=l.length:=by omega
   clear hB;subst hkk;go_wp2_with fail;go_ret;exact ⟨by rw [HV.out]<;>rfl,HBO.out⟩
theorem MR (r:iK) {l:List dM} {k:Nat} (h:k<l.length) (key:Int×ByteArray):oD r (l.take (k+1)) key=Fv (oD r (l.take k)) l[k].k l[k].lv key:=by
 unfold oD Fv;rw [List.take_succ_eq_append_getElem h,List.reverse_append];simp only [List.reverse_cons,List.reverse_nil,List.nil_append,List.singleton_append,List.find?_cons];by_cases c:l[k].k=key
 ·rw [iW.2 c,if_pos c]
 ·have:isK key l[k]=false:=by simpa [isK] using c
  rw [this,if_neg c]
theorem JH (args:Array Value) (W:World):Sem.run Tryz.prog (callFunc 29 args) W=.ok (.enter 29 args) W:=by simp [go_sem]
theorem NK (u:Int) (s:ByteArray) (tb mb m:Nat) (g:Int×ByteArray→Option Int) (W:World) (hT:aH W tb 48 #[.map (some mb)]) (hM:dZ W mb m g) (hk:jE (u,s)) :
  Calls Tryz.prog 29 #[.agg #[.int .i64 u,.string s],.pointer (some ⟨tb,0,none⟩)] W fun e w'=>e=.returned (.int .i64 ((g (u,s)).getD 0))∧Below W.heap.size W w':=by
 have q0:=hT.cell (i:=0) rfl;have ql:=hT.lt;have hq:=(hM.alloc (.cells #[.int .i64 u,.string s] 40)).look1 hk;obtain ⟨v,hv⟩:∃v,(g (u,s)).getD 0=v:=⟨_,rfl⟩;rw [hv] at hq ⊢;clear hT hM hv;go_enter Tryz.func29,Tryz.ntmps29;go_wp2
 go_ret;exact ⟨rfl,(Below.refl _ _).alloc (Nat.le_refl _) _⟩
theorem Bj (r:iK) (l:List dM) (sv:Value) (mb m:Nat) (w:World) (hM:dZ w mb m (nS r)) (hS:lH w.heap.size w sv l) (hs:∀s∈l,sJ s) :
  Calls Tryz.prog 16 #[sv,.map (some mb)] w fun e w'=>e=.returned (.int .i64 (dF r l))∧Below w.heap.size w w':=by
 have HMK:=ah (show mb<w.heap.size∧∀W,Below w.heap.size w W→dZ W mb m (nS r) from ⟨hM.lt,fun W hb=>hM.below hb⟩);have HG:=ah (lH.get hS);have hml:=aW.len hS;unfold maxLen at hml;have KV:=ah hs;obtain ⟨so,cO,rfl,_⟩:=aW.shape hS;have HC:=ah (show dF r l=bQ (qX r) l 0 from rfl);clear hM hS hs;generalize dF r l=RES at *;go_enter Tryz.func16,Tryz.ntmps16;have hmm:=@run_makeMap Tryz.prog;go_wp2_with fail;clear hmm;go_loopw [13] (fun i wx=>∃k:Nat,k≤l.length∧i=.int .i64 k∧Hid (RES=bQ (qX r) l k)∧Hid (Below w.heap.size w wx)∧Hid (dH wx Tryz.prog 40 4 w.heap.size k ((l.take k).map (fun s=>mh s.k)))) (fun i _=>l.length-(intOf i).toNat)
 case atStart=>exact ⟨0,Nat.zero_le _,rfl,HC,ah ((Below.refl _ _).alloc (Nat.le_refl _) _),ah (by simpa using mR w Tryz.prog 40 4)⟩
 case round=>
  clear HC;obtain ⟨k,hk,rfl,gW,bA,AB⟩:=hrel;have hsz:=bA.out.size;have Ho:=AB.out.lt;have hmbl:=HMK.out.1;by_cases hlt:k<l.length
  ·obtain ⟨b,off,cap',hsl,hbb,_,hc⟩:=HG.out (by omega);injection hsl with hs1 hs2 hs3;subst hs1 hs3;obtain ⟨d0,d1,d2⟩:=hc k hlt wr bA.out;have hbr:b<wr.heap.size:=by omega
   have hfit:=KV.out _ (List.getElem_mem hlt);have sN:=ah (fD (qX r) l k hlt);have iB:=ah (gD (qX r) l k hlt);have eZ:=ah (show qX r (l.take k) l[k]=if (nS r l[k].k).isNone then 8 else if !bW l[k].lv 0 65535 then 1 else if (l.take k).any (isK l[k].k) then 6 else 0 by rw [Rn];rfl);have HKK:=ah (Ad hfit);have hkey:=ah (jX HKK.out);have um:=ah (show (l.take (k+1)).map (fun s=>mh s.k)=(l.take k).map (fun s=>mh s.k)++[mh l[k].k] by rw [List.take_succ_eq_append_getElem hlt,List.map_append];rfl)
   have Ey:=ah (show mh l[k].k∈(l.take k).map (fun s=>mh s.k)↔(l.take k).any (isK l[k].k)=true from ⟨fun h=>by
    obtain ⟨y,hy,he⟩:=List.mem_map.1 h;have:=Ae (Ad (KV.out _ (List.mem_of_mem_take hy))) HKK.out he;exact List.any_eq_true.2 ⟨y,hy,iW.2 this⟩,fun h=>by
    obtain ⟨y,hy,he⟩:=List.any_eq_true.1 h;exact List.mem_map.2 ⟨y,hy,by rw [iW.1 he]⟩⟩)
   have hkv:l[k].k=(l[k].unit,l[k].par):=rfl;rw [hkv] at eZ HKK hkey um Ey;clear hkv;generalize (l.take k).map (fun s=>mh s.k)=S at *;generalize (l.take k).any (isK (l[k].unit,l[k].par))=SN at *;generalize qX r (l.take k) l[k]=FF at *;generalize kC:l[k]=rk at *;clear kC;obtain ⟨su,sp,sl⟩:=rk;simp only at *;obtain ⟨DO,hDO⟩:∃o,nS r (su,sp)=o:=⟨_,rfl⟩;have hq:=((HMK.out.2 wr bA.out).alloc (.cells #[.int .i64 su,.string sp,.int .i64 sl] 42)).P5 HKK.out hDO;rw [hDO] at eZ;have oo:=ah (show dH (wr.alloc (.cells #[.int .i64 su,.string sp,.int .i64 sl] 42)) Tryz.prog 40 4 w.heap.size k S from AB.out.kept (World.grownBy_alloc _ _ none) (by simp));have dI:=ah (bA.out.alloc bA.out.size (.cells #[.int .i64 su,.string sp,.int .i64 sl] 42));clear hc hfit AB
   cases DO with
   | none=>
    have HE:FF=8:=by rw [eZ.out];rfl
    have HV:=ah (show RES=8 by rw [gW.out,iB.out (by rw [HE];decide),HE]);clear HE;simp only [Option.getD_none,Option.isSome_none] at hq;go_wp2_with fail;go_ret;exact ⟨by rw [HV.out]<;>rfl,dI.out⟩
   | some dv=>
    simp only [Option.getD_some,Option.isSome_some] at hq;rcases Bool.eq_false_or_eq_true (bW sl 0 65535) with k0 | k0;rotate_left
    ·have HE:FF=1:=by rw [eZ.out];simp [k0]
     have HV:=ah (show RES=1 by rw [gW.out,iB.out (by rw [HE];decide),HE]);clear HE;go_wp2_with (go_at_call 38;((with_reducible refine (bF _ _).mono ?_);rintro e w' ⟨rfl,rfl⟩));go_ret;exact ⟨by rw [HV.out]<;>rfl,dI.out⟩
    cases SN;rotate_left
    ·have HE:FF=6:=by rw [eZ.out];simp [k0]
     have HV:=ah (show RES=6 by rw [gW.out,iB.out (by rw [HE];decide),HE]);clear HE;go_wp2_with (first | (go_at_call 38;((with_reducible refine (bF _ _).mono ?_);rintro e w' ⟨rfl,rfl⟩)) | (at_lookup;refine jT _ rfl _ _ 83 rfl 40 4 nD Tryz.underlying83 Tryz.underlying4 (sP _) w.heap.size k S rfl oo.out (Ac (su,sp)) (mh (su,sp)) rfl hkey.out ?_;intro c hc;obtain rfl:c=true:=hc.2 (Ey.out.2 (by first | rfl | trivial));clear hc) | fail);go_ret;exact ⟨by rw [HV.out]<;>rfl,dI.out⟩
    ·have HE:FF=0:=by rw [eZ.out];simp [k0]
     have HV:=ah (show RES=bQ (qX r) l (k+1) by rw [gW.out,sN.out HE]);clear HE;go_wp2_with (first | (go_at_call 38;((with_reducible refine (bF _ _).mono ?_);rintro e w' ⟨rfl,rfl⟩)) | (at_lookup;refine jT _ rfl _ _ 83 rfl 40 4 nD Tryz.underlying83 Tryz.underlying4 (sP _) w.heap.size k S rfl oo.out (Ac (su,sp)) (mh (su,sp)) rfl hkey.out ?_;intro c hc;obtain rfl:c=false:=(by cases c;rfl;exact absurd (Ey.out.1 (hc.1 rfl)) (by simp));clear hc) | (at_mapUpdate;refine lZ _ rfl _ _ _ 83 rfl 40 4 nD Tryz.underlying83 Tryz.underlying4 w.heap.size k S rfl oo.out (by unfold maxLen;omega) (Ac (su,sp)) (mh (su,sp)) rfl rfl hkey.out ?_;intro w3 hown3 hgrow3) | fail);refine ⟨⟨k+1,by omega,by first | rfl | go_num,HV,ah (dI.out.grown hgrow3 (by simp;omega) (fun j hj=>by cases hj;omega)),ah (by rw [um.out];exact hown3)⟩,?_⟩;simp [intOf];omega
  ·have HV:=ah (show RES=0 by rw [gW.out,gB _ l k (by omega)]);go_wp2_with fail;go_ret;exact ⟨by rw [HV.out]<;>rfl,bA.out⟩
theorem IZ (pb qb:Nat) (bd dn k:Int) (w:World) (hp:aH w pb 88 #[.int .u64 (hw 0 bd),.int .u64 (hw 1 bd),.int .u64 (hw 2 bd),.int .u64 (hw 3 bd),.int .u64 (hw 4 bd),.int .u64 (hw 5 bd)]) (hq:aH w qb 88 #[.int .u64 (hw 0 dn),.int .u64 (hw 1 dn),.int .u64 (hw 2 dn),.int .u64 (hw 3 dn),.int .u64 (hw 4 dn),.int .u64 (hw 5 dn)]) (hb0:0≤bd) (hbP:bd<bE 6) (hd0:0≤dn) (EC:dn≤1000000000000000000000000000000000000000000000000000000000000000000000000) (k0:0≤k) (k1:k≤65535) :
  Calls Tryz.prog 74 #[.int .i64 k,.pointer (some ⟨pb,0,none⟩),.pointer (some ⟨qb,0,none⟩)] w fun e w'=>e=.returned (.bool (!decide (bd<dn*(2*k))))∧Below w.heap.size w w':=by
 have hbig:=lg;have hdP:dn<bE 6:=by omega
 have Gd:0≤2*k:=by omega
 have hk29:2*k≤9223372036854775807:=by omega
 have hdk0:0≤dn*(2*k):=Int.mul_nonneg hd0 Gd;have hdm:dn*(2*k)≤1000000000000000000000000000000000000000000000000000000000000000000000000*131070:=(dJ (a:=dn) (b:=2*k) (A:=1000000000000000000000000000000000000000000000000000000000000000000000000) (B:=131070) hd0 Gd EC (by omega)).2;have hdk:dn*(2*k)<bE 6:=by omega
 have aw:IntKind.i64.wrap (2*k)=2*k:=IntWalk.i64_in _ (by omega);have HP:=ah hp;have HQ:=ah hq;clear hp hq hbig hdm;go_enter Tryz.func74,Tryz.ntmps74;go_upto_region 1 with fail;refine aX (by kernel_rfl) 9 (by simp) (by kernel_rfl) (by kernel_rfl) (by kernel_rfl) (by kernel_rfl) (fun jx vx wx=>match jx with | 0=>vx=(.agg #[.int .u64 (hw 0 bd),.int .u64 (hw 1 bd),.int .u64 (hw 2 bd),.int .u64 (hw 3 bd),.int .u64 (hw 4 bd),.int .u64 (hw 5 bd)]) | 1=>vx=(.agg #[.int .u64 (hw 0 dn),.int .u64 (hw 1 dn),.int .u64 (hw 2 dn),.int .u64 (hw 3 dn),.int .u64 (hw 4 dn),.int .u64 (hw 5 dn)]) | 2=>vx=(.int .i64 k) | 3=>vx=(.int .i64 (2*k)) | 4=>fA w.heap.size vx (.int .i64 (2*k)) wx | 5=>vx=(.agg #[.int .u64 (hw 0 (dn*(2*k))),.int .u64 (hw 1 (dn*(2*k))),.int .u64 (hw 2 (dn*(2*k))),.int .u64 (hw 3 (dn*(2*k))),.int .u64 (hw 4 (dn*(2*k))),.int .u64 (hw 5 (dn*(2*k)))]) | 6=>vx=(.bool (decide (bd<dn*(2*k)))) | 7=>vx=(.bool (!decide (bd<dn*(2*k)))) | 8=>vx=(.bool (!decide (bd<dn*(2*k)))) | _=>True) (fun W=>Below w.heap.size w W) (fun wx wy=>Below wx.heap.size wx wy) (Below.refl _ _).drew ?_ ?_ ?_ ?_
 ·intro jx vx wx wy h g
  match jx,h with
  | 0,h | 1,h | 2,h | 3,h | 5,h | 6,h | 7,h | 8,h=>exact h
  | 4,h=>exact fA.up h g
  | jx+9,h=>exact trivial
 ·intro jx ox dx hj ho hd;exact bO (by kernel_rfl) hj ho hd
 ·intro ix ox ax W hi aC hsh hW hpre;have hsz:w.heap.size≤W.heap.size:=hW.size;have GA:∀ob,Below W.heap.size W (W.alloc ob):=fun ob=>(Below.refl _ _).alloc (Nat.le_refl _) ob;have WA:∀ob,Below w.heap.size w (W.alloc ob):=fun ob=>hW.alloc hsz ob;have t0:ax.tmps[0]?.getD undef=(.int .i64 k):=gT (hsh.2.2 0 (aM (by kernel_rfl)));have t1:ax.tmps[1]?.getD undef=(.pointer (some ⟨pb,0,none⟩)):=gT (hsh.2.2 1 (aM (by kernel_rfl)));have t2:ax.tmps[2]?.getD undef=(.pointer (some ⟨qb,0,none⟩)):=gT (hsh.2.2 2 (aM (by kernel_rfl)));obtain ⟨h0,h1,h2,h3,h4,h5⟩:=bJ (HP.out.below hW);obtain ⟨g0,g1,g2,g3,g4,g5⟩:=bJ (HQ.out.below hW);clear hsh
  match ix,hi,aC with
  | 0,_,aC=>
   cases aC;exact au (w':=W) (by simp [execOp,Act.eval,t1,h0,h1,h2,h3,h4,h5,go_sem]) (aS hW)
  | 1,_,aC=>
   cases aC;exact au (w':=W) (by simp [execOp,Act.eval,t2,g0,g1,g2,g3,g4,g5,go_sem]) (aS hW)
  | 2,_,aC=>
   cases aC;exact au (w':=W) (by simp [execOp,Act.eval,t0,go_sem]) (aS hW)
  | 3,_,aC=>
   cases aC;have f2:=gT (hpre ⟨2,.data⟩ (by simp) (by rfl) _ _ rfl rfl);exact au (w':=W) (by simp [execOp,Act.eval,aw,f2,go_sem]) (aS hW)
  | 4,_,aC=>
   cases aC;have f3:=gT (hpre ⟨3,.data⟩ (by simp) (by rfl) _ _ rfl rfl);exact au (v:=.slice (some ⟨W.heap.size,0,none⟩) 1 1) (w':=W.alloc (.cells #[.int .i64 (2*k)] 3)) (by simp [execOp,Act.eval,f3,go_sem]) ⟨_,rfl,fA.new _ _ hsz,WA _,GA _⟩
  | 5,_,aC=>
   cases aC;have f1:=gT (hpre ⟨1,.data⟩ (by simp) (by rfl) _ _ rfl rfl);have p4:=hpre ⟨4,.data⟩ (by simp) (by rfl) _ _ rfl rfl;obtain ⟨b4,e4,hb4,hl4,hc4⟩:=p4;have f4:=(Array.getD_eq_getD_getElem? ..).symm.trans e4;refine aG (by simp [execOp,Act.eval,f1,f4,go_sem]) ((fJ dn (2*k) b4 W hd0 Gd hk29 hdP hdk hl4 hc4).mono ?_);rintro ex wy ⟨rfl,hb⟩;exact ⟨_,rfl,_,rfl,rfl,hW.trans (hb.mono hsz),hb⟩
  | 6,_,aC=>
   cases aC;have f0:=gT (hpre ⟨0,.data⟩ (by simp) (by rfl) _ _ rfl rfl);have f5:=gT (hpre ⟨5,.data⟩ (by simp) (by rfl) _ _ rfl rfl);refine aG (by simp [execOp,Act.eval,f0,f5,go_sem]) ((KL bd (dn*(2*k)) hb0 hbP hdk0 hdk W).mono ?_);rintro ex wy ⟨rfl,hb⟩;exact ⟨_,rfl,_,rfl,rfl,hW.trans (hb.mono hsz),hb⟩
  | 7,_,aC=>
   cases aC;have f6:=gT (hpre ⟨6,.data⟩ (by simp) (by rfl) _ _ rfl rfl);exact au (w':=W) (by simp [execOp,Act.eval,f6,go_sem]) (aS hW)
  | 8,_,aC=>
   cases aC;have f7:=gT (hpre ⟨7,.data⟩ (by simp) (by rfl) _ _ rfl rfl);exact au (w':=W) (by simp [execOp,Act.eval,f7,go_sem]) (aS hW)
  | ix+9,hi,_=>exact absurd hi (by omega)
 ·intro ax W hsh hW hφ;have e0:=hφ 0 _ _ (by omega) rfl rfl;have e1:=hφ 1 _ _ (by omega) rfl rfl;have e2:=hφ 2 _ _ (by omega) rfl rfl;have e3:=hφ 3 _ _ (by omega) rfl rfl;obtain ⟨b4,e4,hb4,hl4,hc4⟩:=hφ 4 _ _ (by omega) rfl rfl;have e5:=hφ 5 _ _ (by omega) rfl rfl;have e6:=hφ 6 _ _ (by omega) rfl rfl;have e7:=hφ 7 _ _ (by omega) rfl rfl;have e8:=hφ 8 _ _ (by omega) rfl rfl;rw [bf hsh [(5,_),(6,_),(7,_),(8,_),(9,_),(10,_),(11,_),(12,_),(4,_)] [5,6,7,8,9,10,11,12,4] rfl (by kernel_rfl) ⟨e0,e1,e2,e3,e4,e5,e6,e7,e8,trivial⟩];clear hφ hsh e0 e1 e2 e3 e4 e5 e6 e7 e8;clear hc4;simp only [cB,List.foldl_cons,List.foldl_nil,List.drop_succ_cons,List.drop_zero,Act.put,List.setIfInBounds_toArray,List.set_cons_succ,List.set_cons_zero];have gu:=ah hW;clear hW;go_wp2_with fail;go_ret;exact ⟨rfl,gu.out⟩
theorem I4 (pb qb mb:Nat) (bd dn m k:Int) (w:World) (hp:aH w pb 88 #[.int .u64 (hw 0 bd),.int .u64 (hw 1 bd),.int .u64 (hw 2 bd),.int .u64 (hw 3 bd),.int .u64 (hw 4 bd),.int .u64 (hw 5 bd)]) (hq:aH w qb 88 #[.int .u64 (hw 0 dn),.int .u64 (hw 1 dn),.int .u64 (hw 2 dn),.int .u64 (hw 3 dn),.int .u64 (hw 4 dn),.int .u64 (hw 5 dn)]) (hm:aH w mb 88 #[.int .u64 (hw 0 m),.int .u64 (hw 1 m),.int .u64 (hw 2 m),.int .u64 (hw 3 m),.int .u64 (hw 4 m),.int .u64 (hw 5 m)]) (hb0:0≤bd) (hbP:bd<bE 6) (hd0:0≤dn) (EC:dn≤1000000000000000000000000000000000000000000000000000000000000000000000000) (hm0:0≤m) (hm9:m≤1000000000000000000000000000000000000000000000000000000000000000000000000*131070) (k0:0≤k) (k1:k≤65535) :
  Calls Tryz.prog 71 #[.int .i64 k,.pointer (some ⟨pb,0,none⟩),.pointer (some ⟨qb,0,none⟩),.pointer (some ⟨mb,0,none⟩)] w fun e w'=>e=.returned (.bool (!decide (bd<dn*(2*k)+m)))∧Below w.heap.size w w':=by
 have hbig:=lg;have hdP:dn<bE 6:=by omega
 have Gd:0≤2*k:=by omega
 have hk29:2*k≤9223372036854775807:=by omega
 have hdk0:0≤dn*(2*k):=Int.mul_nonneg hd0 Gd;have hdm:dn*(2*k)≤1000000000000000000000000000000000000000000000000000000000000000000000000*131070:=(dJ (a:=dn) (b:=2*k) (A:=1000000000000000000000000000000000000000000000000000000000000000000000000) (B:=131070) hd0 Gd EC (by omega)).2;have hdk:dn*(2*k)<bE 6:=by omega
 have aw:IntKind.i64.wrap (2*k)=2*k:=IntWalk.i64_in _ (by omega);have hs0:0≤dn*(2*k)+m:=by omega
 have hsP:dn*(2*k)+m<bE 6:=by omega
 have HM:=ah hm;have HP:=ah hp;have HQ:=ah hq;clear hp hq hm hbig hdm;go_enter Tryz.func71,Tryz.ntmps71;go_upto_region 1 with fail;refine aX (by kernel_rfl) 11 (by simp) (by kernel_rfl) (by kernel_rfl) (by kernel_rfl) (by kernel_rfl) (fun jx vx wx=>match jx with | 0=>vx=(.agg #[.int .u64 (hw 0 bd),.int .u64 (hw 1 bd),.int .u64 (hw 2 bd),.int .u64 (hw 3 bd),.int .u64 (hw 4 bd),.int .u64 (hw 5 bd)]) | 1=>vx=(.agg #[.int .u64 (hw 0 dn),.int .u64 (hw 1 dn),.int .u64 (hw 2 dn),.int .u64 (hw 3 dn),.int .u64 (hw 4 dn),.int .u64 (hw 5 dn)]) | 2=>vx=(.int .i64 k) | 3=>vx=(.int .i64 (2*k)) | 4=>fA w.heap.size vx (.int .i64 (2*k)) wx | 5=>vx=(.agg #[.int .u64 (hw 0 (dn*(2*k))),.int .u64 (hw 1 (dn*(2*k))),.int .u64 (hw 2 (dn*(2*k))),.int .u64 (hw 3 (dn*(2*k))),.int .u64 (hw 4 (dn*(2*k))),.int .u64 (hw 5 (dn*(2*k)))]) | 6=>vx=(.agg #[.int .u64 (hw 0 m),.int .u64 (hw 1 m),.int .u64 (hw 2 m),.int .u64 (hw 3 m),.int .u64 (hw 4 m),.int .u64 (hw 5 m)]) | 7=>vx=(.agg #[.int .u64 (hw 0 (dn*(2*k)+m)),.int .u64 (hw 1 (dn*(2*k)+m)),.int .u64 (hw 2 (dn*(2*k)+m)),.int .u64 (hw 3 (dn*(2*k)+m)),.int .u64 (hw 4 (dn*(2*k)+m)),.int .u64 (hw 5 (dn*(2*k)+m))]) | 8=>vx=(.bool (decide (bd<dn*(2*k)+m))) | 9=>vx=(.bool (!decide (bd<dn*(2*k)+m))) | 10=>vx=(.bool (!decide (bd<dn*(2*k)+m))) | _=>True) (fun W=>Below w.heap.size w W) (fun wx wy=>Below wx.heap.size wx wy) (Below.refl _ _).drew ?_ ?_ ?_ ?_
 ·intro jx vx wx wy h g
  match jx,h with
  | 0,h | 1,h | 2,h | 3,h | 5,h | 6,h | 7,h | 8,h | 9,h | 10,h=>exact h
  | 4,h=>exact fA.up h g
  | jx+11,h=>exact trivial
 ·intro jx ox dx hj ho hd;exact bO (by kernel_rfl) hj ho hd
 ·intro ix ox ax W hi aC hsh hW hpre;have hsz:w.heap.size≤W.heap.size:=hW.size;have GA:∀ob,Below W.heap.size W (W.alloc ob):=fun ob=>(Below.refl _ _).alloc (Nat.le_refl _) ob;have WA:∀ob,Below w.heap.size w (W.alloc ob):=fun ob=>hW.alloc hsz ob;have t0:ax.tmps[0]?.getD undef=(.int .i64 k):=gT (hsh.2.2 0 (aM (by kernel_rfl)));have t1:ax.tmps[1]?.getD undef=(.pointer (some ⟨pb,0,none⟩)):=gT (hsh.2.2 1 (aM (by kernel_rfl)));have t2:ax.tmps[2]?.getD undef=(.pointer (some ⟨qb,0,none⟩)):=gT (hsh.2.2 2 (aM (by kernel_rfl)));have t3:ax.tmps[3]?.getD undef=(.pointer (some ⟨mb,0,none⟩)):=gT (hsh.2.2 3 (aM (by kernel_rfl)));obtain ⟨h0,h1,h2,h3,h4,h5⟩:=bJ (HP.out.below hW);obtain ⟨g0,g1,g2,g3,g4,g5⟩:=bJ (HQ.out.below hW);obtain ⟨e0,e1,e2,e3,e4,e5⟩:=bJ (HM.out.below hW);clear hsh
  match ix,hi,aC with
  | 0,_,aC=>
   cases aC;exact au (w':=W) (by simp [execOp,Act.eval,t1,h0,h1,h2,h3,h4,h5,go_sem]) (aS hW)
  | 1,_,aC=>
   cases aC;exact au (w':=W) (by simp [execOp,Act.eval,t2,g0,g1,g2,g3,g4,g5,go_sem]) (aS hW)
  | 2,_,aC=>
   cases aC;exact au (w':=W) (by simp [execOp,Act.eval,t0,go_sem]) (aS hW)
  | 3,_,aC=>
   cases aC;have f2:=gT (hpre ⟨2,.data⟩ (by simp) (by rfl) _ _ rfl rfl);exact au (w':=W) (by simp [execOp,Act.eval,aw,f2,go_sem]) (aS hW)
  | 4,_,aC=>
   cases aC;have f3:=gT (hpre ⟨3,.data⟩ (by simp) (by rfl) _ _ rfl rfl);exact au (v:=.slice (some ⟨W.heap.size,0,none⟩) 1 1) (w':=W.alloc (.cells #[.int .i64 (2*k)] 3)) (by simp [execOp,Act.eval,f3,go_sem]) ⟨_,rfl,fA.new _ _ hsz,WA _,GA _⟩
  | 5,_,aC=>
   cases aC;have f1:=gT (hpre ⟨1,.data⟩ (by simp) (by rfl) _ _ rfl rfl);have p4:=hpre ⟨4,.data⟩ (by simp) (by rfl) _ _ rfl rfl;obtain ⟨b4,e4,hb4,hl4,hc4⟩:=p4;have f4:=(Array.getD_eq_getD_getElem? ..).symm.trans e4;refine aG (by simp [execOp,Act.eval,f1,f4,go_sem]) ((fJ dn (2*k) b4 W hd0 Gd hk29 hdP hdk hl4 hc4).mono ?_);rintro ex wy ⟨rfl,hb⟩;exact ⟨_,rfl,_,rfl,rfl,hW.trans (hb.mono hsz),hb⟩
  | 6,_,aC=>
   cases aC;exact au (w':=W) (by simp [execOp,Act.eval,t3,e0,e1,e2,e3,e4,e5,go_sem]) (aS hW)
  | 7,_,aC=>
   cases aC;have f5:=gT (hpre ⟨5,.data⟩ (by simp) (by rfl) _ _ rfl rfl);have f6:=gT (hpre ⟨6,.data⟩ (by simp) (by rfl) _ _ rfl rfl);refine aG (by simp [execOp,Act.eval,f5,f6,go_sem]) ((Ap (dn*(2*k)) m hdk0 hm0 hsP W).mono ?_);rintro ex wy ⟨rfl,hb⟩;exact ⟨_,rfl,_,rfl,rfl,hW.trans (hb.mono hsz),hb⟩
  | 8,_,aC=>
   cases aC;have f0:=gT (hpre ⟨0,.data⟩ (by simp) (by rfl) _ _ rfl rfl);have f7:=gT (hpre ⟨7,.data⟩ (by simp) (by rfl) _ _ rfl rfl);refine aG (by simp [execOp,Act.eval,f0,f7,go_sem]) ((KL bd (dn*(2*k)+m) hb0 hbP hs0 hsP W).mono ?_);rintro ex wy ⟨rfl,hb⟩;exact ⟨_,rfl,_,rfl,rfl,hW.trans (hb.mono hsz),hb⟩
  | 9,_,aC=>
   cases aC;have f8:=gT (hpre ⟨8,.data⟩ (by simp) (by rfl) _ _ rfl rfl);exact au (w':=W) (by simp [execOp,Act.eval,f8,go_sem]) (aS hW)
  | 10,_,aC=>
   cases aC;have f9:=gT (hpre ⟨9,.data⟩ (by simp) (by rfl) _ _ rfl rfl);exact au (w':=W) (by simp [execOp,Act.eval,f9,go_sem]) (aS hW)
  | ix+11,hi,_=>exact absurd hi (by omega)
 ·intro ax W hsh hW hφ;have e0:=hφ 0 _ _ (by omega) rfl rfl;have e1:=hφ 1 _ _ (by omega) rfl rfl;have e2:=hφ 2 _ _ (by omega) rfl rfl;have e3:=hφ 3 _ _ (by omega) rfl rfl;obtain ⟨b4,e4,hb4,hl4,hc4⟩:=hφ 4 _ _ (by omega) rfl rfl;have e5:=hφ 5 _ _ (by omega) rfl rfl;have e6:=hφ 6 _ _ (by omega) rfl rfl;have e7:=hφ 7 _ _ (by omega) rfl rfl;have e8:=hφ 8 _ _ (by omega) rfl rfl;have e9:=hφ 9 _ _ (by omega) rfl rfl;have e10:=hφ 10 _ _ (by omega) rfl rfl;rw [bf hsh [(6,_),(7,_),(8,_),(9,_),(10,_),(11,_),(12,_),(13,_),(14,_),(15,_),(5,_)] [6,7,8,9,10,11,12,13,14,15,5] rfl (by kernel_rfl) ⟨e0,e1,e2,e3,e4,e5,e6,e7,e8,e9,e10,trivial⟩];clear hφ hsh e0 e1 e2 e3 e4 e5 e6 e7 e8 e9 e10;clear hc4;simp only [cB,List.foldl_cons,List.foldl_nil,List.drop_succ_cons,List.drop_zero,Act.put,List.setIfInBounds_toArray,List.set_cons_succ,List.set_cons_zero];have gu:=ah hW;clear hW;go_wp2_with fail;go_ret;exact ⟨rfl,gu.out⟩
end Go.Proofs.YtopmdeefcjdadaaGreat
