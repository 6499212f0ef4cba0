import Derived.Test.YtopmdeefcjdadaaGreatT42M00
import Derived.Test.YtopmdeefcjdadaaGreatT42M14
import Derived.BigRegion
import Derived.Deep.QuietTactic
import Derived.BigQuiet
import Derived.Test.YtopmdeefcjdadaaGreatProg
import Derived.RegionTactic
import Derived.WalkKit
set_option linter.unusedVariables false
set_option linter.unusedSimpArgs false
set_option maxRecDepth 100000
set_option maxHeartbeats 32000000
namespace Go.Proofs.YtopmdeefcjdadaaGreat
open Go.RowKit
def uT (y:Int) (l:List Int) (out:List Int) (i k:Nat) (cur:List Int) (c:Int):Prop:=
 fq c∧cur.length=out.length∧cur.take i=out.take i∧∃done,done.length=k∧cur.drop i=done++(out.drop i).drop k∧mF y (out.drop i) l 0=done++mF y ((out.drop i).drop k) (l.drop k) c
theorem DV (y:Int) (l out:List Int) (i:Nat):uT y l out i 0 out 0:=⟨⟨by decide,by decide⟩,rfl,rfl,[],rfl,rfl,rfl⟩
theorem FX {y:Int} {l out cur:List Int} {i k:Nat} {c:Int} (h:uT y l out i k cur c) (hk:i+k<out.length) (hkl:k<l.length) (hl:Words l) (ho:Words out) (hy:fq y) :
  uT y l out i (k+1) (cur.set (i+k) (jA (out[i+k]+l[k]*y+c))) (iZ (out[i+k]+l[k]*y+c)):=by
 obtain ⟨hc,h1,h2,done,h3,h4,h5⟩:=h;have hx:=hl _ (List.getElem_mem hkl);have ho':=ho _ (List.getElem_mem hk)
 have e:(out.drop i).drop k=out[i+k]::(out.drop i).drop (k+1):=by
  rw [List.drop_drop,List.drop_drop,show i+(k+1)=i+k+1 by omega];exact List.drop_eq_getElem_cons hk
 refine ⟨sG ho' hx hy hc,by rw [List.length_set];exact h1,by rw [List.take_set_of_le (by omega)];exact h2,done++[jA (out[i+k]+l[k]*y+c)],by simp [h3],?_,?_⟩
 ·rw [List.drop_set,if_neg (by omega),h4,show i+k-i=k by omega,List.set_append_right _ _ (by omega),h3,Nat.sub_self,e,List.set_cons_zero,List.append_assoc];rfl
 ·rw [h5,e,List.drop_eq_getElem_cons hkl,mF];simp
theorem IW {y:Int} {l out cur:List Int} {i k:Nat} {c:Int} (h:uT y l out i k cur c) (hk:i+k<out.length) (hc:i+k<cur.length):cur[i+k]=out[i+k]:=by
 obtain ⟨_,h1,h2,done,h3,h4,h5⟩:=h;have a:=congrArg (fun z=>z[k]?) h4;simp only [List.getElem?_drop] at a;rw [List.getElem?_append_right (by omega),h3,Nat.sub_self,List.getElem?_drop,List.getElem?_drop,Nat.add_zero,List.getElem?_eq_getElem hc,List.getElem?_eq_getElem hk] at a;exact Option.some.inj a
theorem IY {y:Int} {l out cur:List Int} {i k:Nat} {c:Int} (h:uT y l out i k cur c) (hk:i+k=out.length) (hl:k≤l.length):cur=out.take i++mF y (out.drop i) l 0:=by
 obtain ⟨_,h1,h2,done,h3,h4,h5⟩:=h;have e:(out.drop i).drop k=[]:=by rw [List.drop_drop];exact List.drop_eq_nil_of_le (by omega)
 rw [e,List.append_nil] at h4;rw [e] at h5;have e2:mF y [] (l.drop k) c=[]:=by cases l.drop k<;>rfl
 rw [e2,List.append_nil] at h5;rw [h5,←h4,←h2,List.take_append_drop]
theorem IV {y:Int} {l out cur:List Int} {i k:Nat} {c:Int} (h:uT y l out i k cur c):cur.length=out.length:=h.2.1
def C9 (l m vv:List Int) (i:Nat) (out:List Int):Prop:=Words out∧out.length=vv.length∧mulL l m vv=out.take i++mulL l (m.drop i) (out.drop i)
theorem FW {l m vv:List Int} (h:Words vv):C9 l m vv 0 vv:=⟨h,rfl,rfl⟩
theorem MG {l m out os:List Int} {y o:Int} (h:mF y out l 0=o::os):mulL l (y::m) out=o::mulL l m os:=by rw [mulL,h]
theorem IU {l m vv out:List Int} {i:Nat} (h:C9 l m vv i out) (hi:i<m.length) (hm:m.length=vv.length) :
  C9 l m vv (i+1) (out.take i++mF m[i] (out.drop i) l 0):=by
 obtain ⟨h1,h2,h3⟩:=h;have hr:=vg m[i] (out.drop i) l 0;have hw:Words (out.drop i):=fun x hx=>h1 x (List.mem_of_mem_drop hx);have hrw:=pX m[i] (out.drop i) l 0 hw;have ht:(out.take i).length=i:=by rw [List.length_take];omega
 refine ⟨fun x hx=>?_,?_,?_⟩
 ·rcases List.mem_append.1 hx with k | k
  ·exact h1 x (List.mem_of_mem_take k)
  ·exact hrw x k
 ·rw [List.length_append,hr,←List.length_append,List.take_append_drop,h2]
 ·rw [h3,List.drop_eq_getElem_cons hi]
  cases hc:mF m[i] (out.drop i) l 0 with
  | nil=>rw [hc] at hr;rw [List.length_drop] at hr;simp at hr;omega
  | cons o os=>
   rw [MG hc,List.take_append,ht,List.drop_append,ht,List.take_take,Nat.min_eq_right (by omega),show i+1-i=1 by omega];have e1:List.drop (i+1) (out.take i)=[]:=List.drop_eq_nil_of_le (by omega);rw [e1,List.take_succ_cons,List.take_zero,List.drop_succ_cons,List.drop_zero,List.append_assoc];rfl
theorem MH {l m vv out:List Int} (h:C9 l m vv m.length out) (hm:m.length=vv.length):out=mulL l m vv:=by
 obtain ⟨h1,h2,h3⟩:=h;rw [h3,List.drop_length];exact (List.take_append_drop _ _).symm
theorem QM (N M:Int) (w:World) (hN:0≤N) (hN6:N<bE 6) (hM:0≤M) (hM6:M<bE 6) (hf:N*M<bE 6) :
  Calls Tryz.prog 68 #[iq N,iq M] w fun e w'=>e=.returned (iq (N*M))∧Below w.heap.size w w':=by
 have Dg:=ah (fM 6 N);have Dc:=ah (fM 6 M);have EF:=ah (iO 6 N hN hN6);have yJ:=ah (iO 6 M hM hM6);obtain ⟨a0,a1,a2,a3,a4,a5,hA⟩:=six (iP 6 N);obtain ⟨b0,b1,b2,b3,b4,b5,hB⟩:=six (iP 6 M)
 have hz:Words [0,0,0,0,0,0]:=fun x hx=>by
  simp at hx;subst hx;exact ⟨by decide,by decide⟩
 have HG:=ah (show iq (N*M)=.agg (dD (mulL [a0,a1,a2,a3,a4,a5] [b0,b1,b2,b3,b4,b5] [0,0,0,0,0,0])) from by
  rw [hA] at Dg EF;rw [hB] at Dc yJ;have hv0:bB [0,0,0,0,0,0]=0:=by simp [bB]
  have h1:=FU Dg.out [b0,b1,b2,b3,b4,b5] [0,0,0,0,0,0] rfl (Nat.le_refl _) Dc.out hz (by rw [EF.out,yJ.out,hv0,Int.zero_add];exact hf);rw [EF.out,yJ.out,hv0,Int.zero_add] at h1;rw [←h1];exact vI (FV _ _ _) (zV _ _ _ hz))
 rw [HG.out];unfold iq;rw [hA] at Dg EF ⊢;rw [hB] at Dc yJ ⊢;clear hf hN hM hA hB HG hN6 hM6;have rC:=ah (show aH ((((w.alloc (.cells #[.int .u64 a0,.int .u64 a1,.int .u64 a2,.int .u64 a3,.int .u64 a4,.int .u64 a5] 88)).alloc (.cells #[.int .u64 b0,.int .u64 b1,.int .u64 b2,.int .u64 b3,.int .u64 b4,.int .u64 b5] 88)).alloc (.cells #[.int .u64 0,.int .u64 0,.int .u64 0,.int .u64 0,.int .u64 0,.int .u64 0] 88)).alloc (.cells #[.int .u64 0,.int .u64 0,.int .u64 0,.int .u64 0,.int .u64 0,.int .u64 0] 88)) w.heap.size 88 (dD [a0,a1,a2,a3,a4,a5]) from (((aH.new w _ _).alloc _).alloc _).alloc _)
 have xS:=ah (show aH ((((w.alloc (.cells #[.int .u64 a0,.int .u64 a1,.int .u64 a2,.int .u64 a3,.int .u64 a4,.int .u64 a5] 88)).alloc (.cells #[.int .u64 b0,.int .u64 b1,.int .u64 b2,.int .u64 b3,.int .u64 b4,.int .u64 b5] 88)).alloc (.cells #[.int .u64 0,.int .u64 0,.int .u64 0,.int .u64 0,.int .u64 0,.int .u64 0] 88)).alloc (.cells #[.int .u64 0,.int .u64 0,.int .u64 0,.int .u64 0,.int .u64 0,.int .u64 0] 88)) (w.heap.size+1) 88 #[.int .u64 b0,.int .u64 b1,.int .u64 b2,.int .u64 b3,.int .u64 b4,.int .u64 b5] from by
  have h:=((aH.new (w.alloc (.cells #[.int .u64 a0,.int .u64 a1,.int .u64 a2,.int .u64 a3,.int .u64 a4,.int .u64 a5] 88)) #[.int .u64 b0,.int .u64 b1,.int .u64 b2,.int .u64 b3,.int .u64 b4,.int .u64 b5] 88).alloc (.cells #[.int .u64 0,.int .u64 0,.int .u64 0,.int .u64 0,.int .u64 0,.int .u64 0] 88)).alloc (.cells #[.int .u64 0,.int .u64 0,.int .u64 0,.int .u64 0,.int .u64 0,.int .u64 0] 88);simpa only [World.size_alloc] using h)
 have Ay:=ah (show aH ((((w.alloc (.cells #[.int .u64 a0,.int .u64 a1,.int .u64 a2,.int .u64 a3,.int .u64 a4,.int .u64 a5] 88)).alloc (.cells #[.int .u64 b0,.int .u64 b1,.int .u64 b2,.int .u64 b3,.int .u64 b4,.int .u64 b5] 88)).alloc (.cells #[.int .u64 0,.int .u64 0,.int .u64 0,.int .u64 0,.int .u64 0,.int .u64 0] 88)).alloc (.cells #[.int .u64 0,.int .u64 0,.int .u64 0,.int .u64 0,.int .u64 0,.int .u64 0] 88)) (w.heap.size+2) 88 #[.int .u64 0,.int .u64 0,.int .u64 0,.int .u64 0,.int .u64 0,.int .u64 0] from by
  have h:=(aH.new ((w.alloc (.cells #[.int .u64 a0,.int .u64 a1,.int .u64 a2,.int .u64 a3,.int .u64 a4,.int .u64 a5] 88)).alloc (.cells #[.int .u64 b0,.int .u64 b1,.int .u64 b2,.int .u64 b3,.int .u64 b4,.int .u64 b5] 88)) #[.int .u64 0,.int .u64 0,.int .u64 0,.int .u64 0,.int .u64 0,.int .u64 0] 88).alloc (.cells #[.int .u64 0,.int .u64 0,.int .u64 0,.int .u64 0,.int .u64 0,.int .u64 0] 88);simpa only [World.size_alloc] using h)
 have Om:=ah (show aH ((((w.alloc (.cells #[.int .u64 a0,.int .u64 a1,.int .u64 a2,.int .u64 a3,.int .u64 a4,.int .u64 a5] 88)).alloc (.cells #[.int .u64 b0,.int .u64 b1,.int .u64 b2,.int .u64 b3,.int .u64 b4,.int .u64 b5] 88)).alloc (.cells #[.int .u64 0,.int .u64 0,.int .u64 0,.int .u64 0,.int .u64 0,.int .u64 0] 88)).alloc (.cells #[.int .u64 0,.int .u64 0,.int .u64 0,.int .u64 0,.int .u64 0,.int .u64 0] 88)) (w.heap.size+3) 88 (dD [0,0,0,0,0,0]) from by
  have h:=aH.new (((w.alloc (.cells #[.int .u64 a0,.int .u64 a1,.int .u64 a2,.int .u64 a3,.int .u64 a4,.int .u64 a5] 88)).alloc (.cells #[.int .u64 b0,.int .u64 b1,.int .u64 b2,.int .u64 b3,.int .u64 b4,.int .u64 b5] 88)).alloc (.cells #[.int .u64 0,.int .u64 0,.int .u64 0,.int .u64 0,.int .u64 0,.int .u64 0] 88)) #[.int .u64 0,.int .u64 0,.int .u64 0,.int .u64 0,.int .u64 0,.int .u64 0] 88;simp only [World.size_alloc] at h;exact h)
 have HB0:=ah (show Below w.heap.size w ((((w.alloc (.cells #[.int .u64 a0,.int .u64 a1,.int .u64 a2,.int .u64 a3,.int .u64 a4,.int .u64 a5] 88)).alloc (.cells #[.int .u64 b0,.int .u64 b1,.int .u64 b2,.int .u64 b3,.int .u64 b4,.int .u64 b5] 88)).alloc (.cells #[.int .u64 0,.int .u64 0,.int .u64 0,.int .u64 0,.int .u64 0,.int .u64 0] 88)).alloc (.cells #[.int .u64 0,.int .u64 0,.int .u64 0,.int .u64 0,.int .u64 0,.int .u64 0] 88)) from ((((Below.refl _ _).alloc (Nat.le_refl _) _).alloc (by simp) _).alloc (by simp;omega) _).alloc (by simp;omega) _);have eA:dD [a0,a1,a2,a3,a4,a5]=#[.int .u64 a0,.int .u64 a1,.int .u64 a2,.int .u64 a3,.int .u64 a4,.int .u64 a5]:=rfl;have eB:dD [b0,b1,b2,b3,b4,b5]=#[.int .u64 b0,.int .u64 b1,.int .u64 b2,.int .u64 b3,.int .u64 b4,.int .u64 b5]:=rfl;rw [eA,eB];have HIX:=ah (fun i hi=>Ag b0 b1 b2 b3 b4 b5 i hi);have yV:=ah (FW (l:=[a0,a1,a2,a3,a4,a5]) (m:=[b0,b1,b2,b3,b4,b5]) hz);go_enter Tryz.func68,Tryz.ntmps68;go_wp2_with fail;generalize hw0:((((w.alloc (.cells #[.int .u64 a0,.int .u64 a1,.int .u64 a2,.int .u64 a3,.int .u64 a4,.int .u64 a5] 88)).alloc (.cells #[.int .u64 b0,.int .u64 b1,.int .u64 b2,.int .u64 b3,.int .u64 b4,.int .u64 b5] 88)).alloc (.cells #[.int .u64 0,.int .u64 0,.int .u64 0,.int .u64 0,.int .u64 0,.int .u64 0] 88)).alloc (.cells #[.int .u64 0,.int .u64 0,.int .u64 0,.int .u64 0,.int .u64 0,.int .u64 0] 88))=w1 at *;clear hw0;have y0:=xS.out.cell (i:=0) rfl;have y1:=xS.out.cell (i:=1) rfl;have y2:=xS.out.cell (i:=2) rfl;have y3:=xS.out.cell (i:=3) rfl;have y4:=xS.out.cell (i:=4) rfl;have y5:=xS.out.cell (i:=5) rfl;have yl:=xS.out.lt;go_wp2_with fail;clear y0 y1 y2 y3 y4 y5 yl eA eB;go_loopw [15] (fun i wx=>∃(k:Nat) (out:List Int),k≤6∧i=.int .i64 k∧Hid (C9 [a0,a1,a2,a3,a4,a5] [b0,b1,b2,b3,b4,b5] [0,0,0,0,0,0] k out)∧Hid (aH wx (w.heap.size+3) 88 (dD out))∧Hid (aH wx w.heap.size 88 (dD [a0,a1,a2,a3,a4,a5]))∧Hid (aH wx (w.heap.size+2) 88 #[.int .u64 0,.int .u64 0,.int .u64 0,.int .u64 0,.int .u64 0,.int .u64 0])∧Hid (Below w.heap.size w wx)) (fun i _=>6-(intOf i).toNat)
 case atStart=>exact ⟨0,_,by omega,rfl,yV,Om,rC,Ay,HB0⟩
 case round=>
  clear rC xS Ay Om HB0 yV;obtain ⟨i,out,hi,rfl,xV,Om,rC,Ay,dI⟩:=hrel;by_cases hi6:i<6
  ·have hi6':(i:Int)<6:=by omega
   have hix:=HIX.out i hi6;have hy:fq ([b0,b1,b2,b3,b4,b5][i]'(by simpa using hi6)):=Dc.out _ (List.getElem_mem _);have vT:=ah (IU xV.out (by simpa using hi6) rfl);have HWO:=ah xV.out.1;have hol:out.length=6:=xV.out.2.1;generalize [b0,b1,b2,b3,b4,b5][i]'(by simpa using hi6)=y at *;have HY:=ah hy;have AL:=ah (DV y [a0,a1,a2,a3,a4,a5] out i);clear hy xV;go_wp2_with fail;clear hix;obtain ⟨wo,rfl⟩:∃wo:World,wo=wr:=⟨_,rfl⟩;go_loopw [9,8] (fun j c wx=>∃(k:Nat) (cur:List Int) (cc:Int),i+k≤6∧j=.int .i64 k∧c=.int .u64 cc∧Hid (uT y [a0,a1,a2,a3,a4,a5] out i k cur cc)∧Hid (aH wx (w.heap.size+3) 88 (dD cur))∧Hid (aH wx w.heap.size 88 (dD [a0,a1,a2,a3,a4,a5]))∧Hid (aH wx (w.heap.size+2) 88 #[.int .u64 0,.int .u64 0,.int .u64 0,.int .u64 0,.int .u64 0,.int .u64 0])∧Hid (Below w.heap.size w wx)) (fun j _ _=>6-i-(intOf j).toNat)
   case atStart=>exact ⟨0,_,0,by omega,rfl,rfl,AL,Om,rC,Ay,dI⟩
   case round=>
    clear rC Ay Om dI AL;obtain ⟨k,cur,cc,hk,rfl,rfl,HRA,Om,rC,Ay,dI⟩:=hrel;have hlen:=IV HRA.out;have aw:IntKind.i64.wrap ((i:Int)+(k:Int))=((i+k:Nat):Int):=by rw [←Int.natCast_add];exact IntWalk.i64_in _ (by omega)
    have hrl:=Om.out.lt;by_cases tY:i+k<6
    ·have hk6':((i+k:Nat):Int)<6:=by omega
     have QC:k<6:=by omega
     have hkk6':(k:Int)<6:=by omega
     have hx:fq ([a0,a1,a2,a3,a4,a5][k]'(by simpa using QC)):=Dg.out _ (List.getElem_mem _);have ho:fq (out[i+k]'(by omega)):=HWO.out _ (List.getElem_mem _);have HNR:=ah (FX HRA.out (by omega) (by simpa using QC) Dg.out HWO.out HY.out);have hcc:=HRA.out.1;have z0:wr.cell? ⟨w.heap.size,k,none⟩=some (.int .u64 ([a0,a1,a2,a3,a4,a5][k]'(by simpa using QC))):=rC.out.cell (jv (i:=k) (by simpa using QC))
     have z1:wr.cell? ⟨w.heap.size+3,i+k,none⟩=some (.int .u64 (out[i+k]'(by omega))):=by
      have h:=Om.out.cell (jv (i:=i+k) (by omega));rw [IW HRA.out (by omega) (by omega)] at h;exact h
     have zf:=Om.out.frozen (i+k);generalize [a0,a1,a2,a3,a4,a5][k]'(by simpa using QC)=x at *;generalize out[i+k]'(by omega)=o at *;obtain ⟨q1,q2,q3,q4⟩:=LY ho hx HY.out hcc;have HM:=ah (fun W=>mul64 x y hx HY.out W);have hadd1:=fun W=>El (jA (x*y)) cc (fG (x*y)) hcc W;have hadd2:=fun W=>El o (jA (jA (x*y)+cc)) ho (fG _) W;rw [q1] at hadd2;have hcw:=sG ho hx HY.out hcc;generalize jA (o+x*y+cc)=rv at *;generalize iZ (o+x*y+cc)=cv at *;generalize iZ (o+jA (jA (x*y)+cc))=c2 at *;generalize iZ (x*y+cc)=h2 at *;generalize iZ (jA (x*y)+cc)=c1 at *;generalize jA (jA (x*y)+cc)=sv at *;generalize iZ (x*y)=hv at *;generalize jA (x*y)=lv at *;have HT2:=ah (Om.out.set (i+k) (.int .u64 rv));rw [tC] at HT2;have JQ:=ah (rC.out.setOther (b':=w.heap.size+3) (i:=i+k) (by omega) (.int .u64 rv));have RN:=ah (Ay.out.setOther (b':=w.heap.size+3) (i:=i+k) (by omega) (.int .u64 rv));have HB2:=ah (dI.out.setCell (p:=⟨w.heap.size+3,i+k,none⟩) (by simp) (.int .u64 rv));clear HRA hx ho hcc hlen q1 q4 hcw;go_wp2_with (first | (go_at_call 95;refine (HM.out _).mono ?_;rintro e w' ⟨rfl,rfl⟩) | fail);go_roundw
     case rel=>exact ⟨k+1,_,cv,by omega,by first | rfl | go_num,rfl,HNR,HT2,JQ,RN,HB2⟩
     case measure=>simp [intOf];omega
    ·have hkk:¬(((i+k:Nat):Int)<6):=by omega
     have HE:=ah (IY HRA.out (by omega) (by simp;omega));have HM2:=ah (show C9 [a0,a1,a2,a3,a4,a5] [b0,b1,b2,b3,b4,b5] [0,0,0,0,0,0] (i+1) cur by rw [HE.out];exact vT.out);go_wp2_with fail;go_roundw
     case rel=>exact ⟨i+1,cur,by omega,by first | rfl | go_num,HM2,Om,rC,Ay,dI⟩
     case measure=>simp [intOf];omega
  ·have hkk:i=6:=by omega
   subst hkk;have HE:=ah (MH xV.out rfl);have hlen:out.length=6:=xV.out.2.1;obtain ⟨c0,c1,c2,c3,c4,c5,rfl⟩:=six hlen;have ht:=Om.out;have e0:dD [c0,c1,c2,c3,c4,c5]=#[.int .u64 c0,.int .u64 c1,.int .u64 c2,.int .u64 c3,.int .u64 c4,.int .u64 c5]:=rfl;rw [e0] at ht;have y0:=aH.cell (i:=0) ht rfl;have y1:=aH.cell (i:=1) ht rfl;have y2:=aH.cell (i:=2) ht rfl;have y3:=aH.cell (i:=3) ht rfl;have y4:=aH.cell (i:=4) ht rfl;have y5:=aH.cell (i:=5) ht rfl;have yl:=aH.lt ht;have hr:=Ay.out;have r0:=aH.cell (i:=0) hr rfl;have r1:=aH.cell (i:=1) hr rfl;have r2:=aH.cell (i:=2) hr rfl;have r3:=aH.cell (i:=3) hr rfl;have r4:=aH.cell (i:=4) hr rfl;have r5:=aH.cell (i:=5) hr rfl;have rf0:=aH.frozen hr 0;have rf1:=aH.frozen hr 1;have rf2:=aH.frozen hr 2;have rf3:=aH.frozen hr 3;have rf4:=aH.frozen hr 4;have rf5:=aH.frozen hr 5;have gu:=ah ((((((dI.out.setCell (p:=⟨w.heap.size+2,0,none⟩) (by simp) (.int .u64 c0)).setCell (p:=⟨w.heap.size+2,1,none⟩) (by simp) (.int .u64 c1)).setCell (p:=⟨w.heap.size+2,2,none⟩) (by simp) (.int .u64 c2)).setCell (p:=⟨w.heap.size+2,3,none⟩) (by simp) (.int .u64 c3)).setCell (p:=⟨w.heap.size+2,4,none⟩) (by simp) (.int .u64 c4)).setCell (p:=⟨w.heap.size+2,5,none⟩) (by simp) (.int .u64 c5));clear hr ht;go_wp2_with fail;exact bodyPost_ret (v:=.agg #[.int .u64 c0,.int .u64 c1,.int .u64 c2,.int .u64 c3,.int .u64 c4,.int .u64 c5]) (by simp [results,Tryz.results68,go_sem,r0,r1,r2,r3,r4,r5]) rfl ⟨by rw [←HE.out];rfl,gu.out⟩
theorem sub64 (x y c:Int) (hx:fq x) (hy:fq y) (hc0:0≤c) (hc1:c≤1) (w:World) :
  (callFunc 98 #[.int .u64 x,.int .u64 y,.int .u64 c]).run Tryz.prog w=.ok (.value (.tuple #[.int .u64 (jA (x-y-c)),.int .u64 (-iZ (x-y-c))])) w:=by
 obtain ⟨hx0,hx1⟩:=hx;obtain ⟨hy0,hy1⟩:=hy;obtain ⟨a,rfl⟩:=Int.eq_ofNat_of_zero_le hx0;obtain ⟨b,rfl⟩:=Int.eq_ofNat_of_zero_le hy0;obtain ⟨d,rfl⟩:=Int.eq_ofNat_of_zero_le hc0;rw [run_callFunc_extern Tryz.func98 (by kernel_rfl) (by kernel_rfl) (by kernel_rfl) (e:=sub64Entry) (by kernel_rfl),run_sub64 a b d (by omega)];simp only [Result.andThen];have e1:(((a+18446744073709551616-b-d) % 18446744073709551616:Nat):Int)=jA ((a:Int)-b-d):=by unfold jA;omega
 have e2:((if a<b+d then 1 else 0:Nat):Int)=-iZ ((a:Int)-b-d):=by
  unfold iZ;by_cases h:a<b+d
  ·rw [if_pos h];omega
  ·rw [if_neg h];omega
 rw [e1,e2]
def qI (l m:List Int) (i:Nat) (cur:List Int) (c:Int):Prop:=(0≤c∧c≤1)∧∃done,done.length=i∧cur=done++l.drop i∧jf l m 0=done++jf (l.drop i) (m.drop i) c
theorem Bp (l m:List Int):qI l m 0 l 0:=⟨⟨by decide,by decide⟩,[],rfl,rfl,rfl⟩
theorem GQ {x y c:Int} (hx:fq x) (hy:fq y) (hc:0≤c∧c≤1):0≤-iZ (x-y-c)∧-iZ (x-y-c)≤1:=by
 unfold fq at *;unfold iZ;omega
theorem Et {l m:List Int} {i:Nat} {cur:List Int} {c:Int} (h:qI l m i cur c) (hi:i<l.length) (hm:i<m.length) (hl:Words l) (hw:Words m) :
  qI l m (i+1) (cur.set i (jA (l[i]-m[i]-c))) (-iZ (l[i]-m[i]-c)):=by
 obtain ⟨hc,done,h1,h2,h3⟩:=h;have hx:=hl _ (List.getElem_mem hi);have hy:=hw _ (List.getElem_mem hm);refine ⟨GQ hx hy hc,done++[jA (l[i]-m[i]-c)],by simp [h1],?_,?_⟩
 ·rw [h2,List.set_append_right _ _ (by omega),h1,Nat.sub_self,List.drop_eq_getElem_cons hi,List.set_cons_zero,List.append_assoc];rfl
 ·rw [h3,List.drop_eq_getElem_cons hi,List.drop_eq_getElem_cons hm,jf];simp
theorem GV {l m:List Int} {cur:List Int} {c:Int} (h:qI l m l.length cur c) (hlm:l.length=m.length):cur=jf l m 0:=by
 obtain ⟨hc,done,h1,h2,h3⟩:=h;have e:jf [] (m.drop l.length) c=[]:=by unfold jf;rfl
 rw [List.drop_length] at h2 h3;rw [h2,h3,e]
theorem GR {l m:List Int} {i:Nat} {cur:List Int} {c:Int} (h:qI l m i cur c) (hi:i≤l.length):cur.length=l.length:=by
 obtain ⟨hc,done,h1,h2,h3⟩:=h;rw [h2,List.length_append,List.length_drop,h1];omega
theorem GU {l m:List Int} {i:Nat} {cur:List Int} {c:Int} (h:qI l m i cur c) (hi:i<l.length) (hc:i<cur.length):cur[i]=l[i]:=by
 obtain ⟨_,done,h1,h2,_⟩:=h;subst h2;rw [List.getElem_append_right (by omega),List.getElem_drop];congr 1
 omega
theorem Jj (N M:Int) (w:World) (hN:N<bE 6) (hM:0≤M) (hf:M≤N) :
  Calls Tryz.prog 73 #[iq N,iq M] w fun e w'=>e=.returned (iq (N-M))∧Below w.heap.size w w':=by
 have Dg:=ah (fM 6 N);have Dc:=ah (fM 6 M);have EF:=ah (iO 6 N (by omega) (by omega));have yJ:=ah (iO 6 M (by omega) (by omega));have HF:=ah hf;have HNN:=ah hN;obtain ⟨a0,a1,a2,a3,a4,a5,hA⟩:=six (iP 6 N);obtain ⟨b0,b1,b2,b3,b4,b5,hB⟩:=six (iP 6 M)
 have HG:=ah (show iq (N-M)=.agg (dD (jf [a0,a1,a2,a3,a4,a5] [b0,b1,b2,b3,b4,b5] 0)) from by
  rw [hA] at Dg EF;rw [hB] at Dc yJ;have h1:=zW [a0,a1,a2,a3,a4,a5] [b0,b1,b2,b3,b4,b5] 0 rfl Dg.out Dc.out (by rw [EF.out,yJ.out];omega) (by rw [EF.out,yJ.out];show _<bE 6;omega);rw [EF.out,yJ.out,Int.sub_zero] at h1;rw [←h1];exact vI (zX _ _ _ rfl) (vB _ _ _))
 rw [HG.out];unfold iq;rw [hA] at Dg EF ⊢;rw [hB] at Dc yJ ⊢;clear hf hN hM hA hB HG;have rC:=ah (show aH (((w.alloc (.cells #[.int .u64 a0,.int .u64 a1,.int .u64 a2,.int .u64 a3,.int .u64 a4,.int .u64 a5] 88)).alloc (.cells #[.int .u64 b0,.int .u64 b1,.int .u64 b2,.int .u64 b3,.int .u64 b4,.int .u64 b5] 88)).alloc (.cells #[.int .u64 0,.int .u64 0,.int .u64 0,.int .u64 0,.int .u64 0,.int .u64 0] 88)) w.heap.size 88 (dD [a0,a1,a2,a3,a4,a5]) from ((aH.new w _ _).alloc _).alloc _)
 have xS:=ah (show aH (((w.alloc (.cells #[.int .u64 a0,.int .u64 a1,.int .u64 a2,.int .u64 a3,.int .u64 a4,.int .u64 a5] 88)).alloc (.cells #[.int .u64 b0,.int .u64 b1,.int .u64 b2,.int .u64 b3,.int .u64 b4,.int .u64 b5] 88)).alloc (.cells #[.int .u64 0,.int .u64 0,.int .u64 0,.int .u64 0,.int .u64 0,.int .u64 0] 88)) (w.heap.size+1) 88 #[.int .u64 b0,.int .u64 b1,.int .u64 b2,.int .u64 b3,.int .u64 b4,.int .u64 b5] from by
  have h:=(aH.new (w.alloc (.cells #[.int .u64 a0,.int .u64 a1,.int .u64 a2,.int .u64 a3,.int .u64 a4,.int .u64 a5] 88)) #[.int .u64 b0,.int .u64 b1,.int .u64 b2,.int .u64 b3,.int .u64 b4,.int .u64 b5] 88).alloc (.cells #[.int .u64 0,.int .u64 0,.int .u64 0,.int .u64 0,.int .u64 0,.int .u64 0] 88);simpa only [World.size_alloc] using h)
 have Ay:=ah (show aH (((w.alloc (.cells #[.int .u64 a0,.int .u64 a1,.int .u64 a2,.int .u64 a3,.int .u64 a4,.int .u64 a5] 88)).alloc (.cells #[.int .u64 b0,.int .u64 b1,.int .u64 b2,.int .u64 b3,.int .u64 b4,.int .u64 b5] 88)).alloc (.cells #[.int .u64 0,.int .u64 0,.int .u64 0,.int .u64 0,.int .u64 0,.int .u64 0] 88)) (w.heap.size+2) 88 #[.int .u64 0,.int .u64 0,.int .u64 0,.int .u64 0,.int .u64 0,.int .u64 0] from by
  have h:=aH.new ((w.alloc (.cells #[.int .u64 a0,.int .u64 a1,.int .u64 a2,.int .u64 a3,.int .u64 a4,.int .u64 a5] 88)).alloc (.cells #[.int .u64 b0,.int .u64 b1,.int .u64 b2,.int .u64 b3,.int .u64 b4,.int .u64 b5] 88)) #[.int .u64 0,.int .u64 0,.int .u64 0,.int .u64 0,.int .u64 0,.int .u64 0] 88;simpa only [World.size_alloc] using h)
 have HB0:=ah (show Below w.heap.size w (((w.alloc (.cells #[.int .u64 a0,.int .u64 a1,.int .u64 a2,.int .u64 a3,.int .u64 a4,.int .u64 a5] 88)).alloc (.cells #[.int .u64 b0,.int .u64 b1,.int .u64 b2,.int .u64 b3,.int .u64 b4,.int .u64 b5] 88)).alloc (.cells #[.int .u64 0,.int .u64 0,.int .u64 0,.int .u64 0,.int .u64 0,.int .u64 0] 88)) from (((Below.refl _ _).alloc (Nat.le_refl _) _).alloc (by simp) _).alloc (by simp;omega) _);have eA:dD [a0,a1,a2,a3,a4,a5]=#[.int .u64 a0,.int .u64 a1,.int .u64 a2,.int .u64 a3,.int .u64 a4,.int .u64 a5]:=rfl;have eB:dD [b0,b1,b2,b3,b4,b5]=#[.int .u64 b0,.int .u64 b1,.int .u64 b2,.int .u64 b3,.int .u64 b4,.int .u64 b5]:=rfl;rw [eA,eB];have HS0:=ah (Bp [a0,a1,a2,a3,a4,a5] [b0,b1,b2,b3,b4,b5]);go_enter Tryz.func73,Tryz.ntmps73;go_wp2_with fail;generalize hw0:(((w.alloc (.cells #[.int .u64 a0,.int .u64 a1,.int .u64 a2,.int .u64 a3,.int .u64 a4,.int .u64 a5] 88)).alloc (.cells #[.int .u64 b0,.int .u64 b1,.int .u64 b2,.int .u64 b3,.int .u64 b4,.int .u64 b5] 88)).alloc (.cells #[.int .u64 0,.int .u64 0,.int .u64 0,.int .u64 0,.int .u64 0,.int .u64 0] 88))=w1 at *;clear hw0;go_loopw [7,5] (fun i c wx=>∃(k:Nat) (cur:List Int) (cc:Int),k≤6∧i=.int .i64 k∧c=.int .u64 cc∧Hid (qI [a0,a1,a2,a3,a4,a5] [b0,b1,b2,b3,b4,b5] k cur cc)∧Hid (aH wx w.heap.size 88 (dD cur))∧Hid (aH wx (w.heap.size+1) 88 #[.int .u64 b0,.int .u64 b1,.int .u64 b2,.int .u64 b3,.int .u64 b4,.int .u64 b5])∧Hid (aH wx (w.heap.size+2) 88 #[.int .u64 0,.int .u64 0,.int .u64 0,.int .u64 0,.int .u64 0,.int .u64 0])∧Hid (Below w.heap.size w wx)) (fun i _ _=>6-(intOf i).toNat)
 case atStart=>exact ⟨0,_,0,by omega,rfl,rfl,HS0,rC,xS,Ay,HB0⟩
 case round=>
  clear rC xS Ay HB0 HS0;obtain ⟨k,cur,cc,hk,rfl,rfl,HA,rC,xS,Ay,dI⟩:=hrel;have hlen:=GR HA.out (by simpa using hk);have hrl:=Ay.out.lt;by_cases tY:k<6
  ·have hk6':(k:Int)<6:=by omega
   have hx:fq ([a0,a1,a2,a3,a4,a5][k]'(by simpa using tY)):=Dg.out _ (List.getElem_mem _);have hy:fq ([b0,b1,b2,b3,b4,b5][k]'(by simpa using tY)):=Dc.out _ (List.getElem_mem _);have vT:=ah (Et HA.out (by simpa using tY) (by simpa using tY) Dg.out Dc.out);have hcc:=HA.out.1
   have z0:wr.cell? ⟨w.heap.size,k,none⟩=some (.int .u64 ([a0,a1,a2,a3,a4,a5][k]'(by simpa using tY))):=by
    have h:=rC.out.cell (jv (i:=k) (by rw [hlen];simpa using tY));rw [GU HA.out (by simpa using tY)] at h;exact h
   have z1:wr.cell? ⟨w.heap.size+1,k,none⟩=some (.int .u64 ([b0,b1,b2,b3,b4,b5][k]'(by simpa using tY))):=aH.cell (show aH wr _ _ (dD [b0,b1,b2,b3,b4,b5]) from xS.out) (jv (i:=k) (by simpa using tY));have zf:=rC.out.frozen k;generalize [a0,a1,a2,a3,a4,a5][k]'(by simpa using tY)=x at *;generalize [b0,b1,b2,b3,b4,b5][k]'(by simpa using tY)=y at *;have hadd:=fun W=>sub64 x y cc hx hy hcc.1 hcc.2 W;generalize jA (x-y-cc)=sv at *;generalize -iZ (x-y-cc)=cv at *;have HT2:=ah (rC.out.set k (.int .u64 sv));rw [tC] at HT2;have HTB2:=ah (xS.out.setOther (b':=w.heap.size) (i:=k) (by omega) (.int .u64 sv));have RN:=ah (Ay.out.setOther (b':=w.heap.size) (i:=k) (by omega) (.int .u64 sv));have HB2:=ah (dI.out.setCell (p:=⟨w.heap.size,k,none⟩) (Nat.le_refl _) (.int .u64 sv));have HT3:=ah (show aH (wr.setCell ⟨w.heap.size,k,none⟩ (.int .u64 sv)).drew w.heap.size 88 (dD (cur.set k sv)) from HT2.out);have HTB3:=ah (show aH (wr.setCell ⟨w.heap.size,k,none⟩ (.int .u64 sv)).drew (w.heap.size+1) 88 #[.int .u64 b0,.int .u64 b1,.int .u64 b2,.int .u64 b3,.int .u64 b4,.int .u64 b5] from HTB2.out);have HTR3:=ah (show aH (wr.setCell ⟨w.heap.size,k,none⟩ (.int .u64 sv)).drew (w.heap.size+2) 88 #[.int .u64 0,.int .u64 0,.int .u64 0,.int .u64 0,.int .u64 0,.int .u64 0] from RN.out);have HB3:=ah HB2.out.drew;clear HA hx hy hcc hlen;go_wp2_with fail;go_region
   go_wp2_with fail;go_roundw
   case rel=>exact ⟨k+1,_,cv,by omega,by first | rfl | go_num,rfl,vT,HT3,HTB3,HTR3,HB3⟩
   case measure=>simp [intOf];omega
  ·have hkk:k=6:=by omega
   subst hkk;have HE:=ah (GV HA.out rfl);obtain ⟨c0,c1,c2,c3,c4,c5,rfl⟩:=six hlen;have ht:=rC.out;have e0:dD [c0,c1,c2,c3,c4,c5]=#[.int .u64 c0,.int .u64 c1,.int .u64 c2,.int .u64 c3,.int .u64 c4,.int .u64 c5]:=rfl;rw [e0] at ht;have y0:=aH.cell (i:=0) ht rfl;have y1:=aH.cell (i:=1) ht rfl;have y2:=aH.cell (i:=2) ht rfl;have y3:=aH.cell (i:=3) ht rfl;have y4:=aH.cell (i:=4) ht rfl;have y5:=aH.cell (i:=5) ht rfl;have yl:=aH.lt ht;have hr:=Ay.out;have r0:=aH.cell (i:=0) hr rfl;have r1:=aH.cell (i:=1) hr rfl;have r2:=aH.cell (i:=2) hr rfl;have r3:=aH.cell (i:=3) hr rfl;have r4:=aH.cell (i:=4) hr rfl;have r5:=aH.cell (i:=5) hr rfl;have rf0:=aH.frozen hr 0;have rf1:=aH.frozen hr 1;have rf2:=aH.frozen hr 2;have rf3:=aH.frozen hr 3;have rf4:=aH.frozen hr 4;have rf5:=aH.frozen hr 5;have gu:=ah ((((((dI.out.setCell (p:=⟨w.heap.size+2,0,none⟩) (by simp) (.int .u64 c0)).setCell (p:=⟨w.heap.size+2,1,none⟩) (by simp) (.int .u64 c1)).setCell (p:=⟨w.heap.size+2,2,none⟩) (by simp) (.int .u64 c2)).setCell (p:=⟨w.heap.size+2,3,none⟩) (by simp) (.int .u64 c3)).setCell (p:=⟨w.heap.size+2,4,none⟩) (by simp) (.int .u64 c4)).setCell (p:=⟨w.heap.size+2,5,none⟩) (by simp) (.int .u64 c5));clear hr ht;go_wp2_with fail;exact bodyPost_ret (v:=.agg #[.int .u64 c0,.int .u64 c1,.int .u64 c2,.int .u64 c3,.int .u64 c4,.int .u64 c5]) (by simp [results,Tryz.results73,go_sem,r0,r1,r2,r3,r4,r5]) rfl ⟨by rw [←HE.out];rfl,gu.out⟩
theorem I9 {l m:List Int} {k:Nat} (hk:k<l.length) (hlm:l.length=m.length) (hl:Words l) (hm:Words m) (hd:l.drop (k+1)=m.drop (k+1)) (hne:l[k]≠m[k]):bB l<bB m↔l[k]<m[k]:=by
 have e1:l=l.take k++l[k]::l.drop (k+1):=by rw [←List.drop_eq_getElem_cons hk,List.take_append_drop]
 have e2:m=m.take k++m[k]::m.drop (k+1):=by rw [←List.drop_eq_getElem_cons (by omega),List.take_append_drop]
 have h:=less_at (l:=l.take k) (m:=m.take k) (s:=l.drop (k+1)) (x:=l[k]) (y:=m[k]) (by simp [hlm]) (fun x hx=>hl x (List.mem_of_mem_take hx)) (fun x hx=>hm x (List.mem_of_mem_take hx)) hne;rw [←e1,hd,←e2] at h;exact h
theorem Nq {l m:List Int} {k:Nat} (hk:k<l.length) (hlm:l.length=m.length) (hd:l.drop (k+1)=m.drop (k+1)) (he:l[k]=m[k]):l.drop k=m.drop k:=by
 rw [List.drop_eq_getElem_cons hk,List.drop_eq_getElem_cons (show k<m.length by omega),he,hd]
theorem M5 (N M:Int) (w:World) (h0:0≤N) (h1:N<bE 6) (h2:0≤M) (h3:M<bE 6) :
  Calls Tryz.prog 72 #[iq N,iq M] w fun e w'=>e=.returned (.bool (decide (N<M)))∧Below w.heap.size w w':=by
 have Dg:=ah (fM 6 N);have Dc:=ah (fM 6 M);have EF:=ah (iO 6 N h0 h1);have yJ:=ah (iO 6 M h2 h3);obtain ⟨a0,a1,a2,a3,a4,a5,hA⟩:=six (iP 6 N);obtain ⟨b0,b1,b2,b3,b4,b5,hB⟩:=six (iP 6 M);unfold iq;rw [hA] at Dg EF ⊢;rw [hB] at Dc yJ ⊢;have HD:=ah (show decide (N<M)=decide (bB [a0,a1,a2,a3,a4,a5]<bB [b0,b1,b2,b3,b4,b5]) by rw [EF.out,yJ.out]);generalize decide (N<M)=RES at *;clear hA hB h0 h1 h2 h3;have rC:=ah (show aH ((w.alloc (.cells #[.int .u64 a0,.int .u64 a1,.int .u64 a2,.int .u64 a3,.int .u64 a4,.int .u64 a5] 88)).alloc (.cells #[.int .u64 b0,.int .u64 b1,.int .u64 b2,.int .u64 b3,.int .u64 b4,.int .u64 b5] 88)) w.heap.size 88 (dD [a0,a1,a2,a3,a4,a5]) from (aH.new w _ _).alloc _)
 have xS:=ah (show aH ((w.alloc (.cells #[.int .u64 a0,.int .u64 a1,.int .u64 a2,.int .u64 a3,.int .u64 a4,.int .u64 a5] 88)).alloc (.cells #[.int .u64 b0,.int .u64 b1,.int .u64 b2,.int .u64 b3,.int .u64 b4,.int .u64 b5] 88)) (w.heap.size+1) 88 (dD [b0,b1,b2,b3,b4,b5]) from by
  have h:=aH.new (w.alloc (.cells #[.int .u64 a0,.int .u64 a1,.int .u64 a2,.int .u64 a3,.int .u64 a4,.int .u64 a5] 88)) #[.int .u64 b0,.int .u64 b1,.int .u64 b2,.int .u64 b3,.int .u64 b4,.int .u64 b5] 88;simp only [World.size_alloc] at h;exact h)
 have HB0:=ah (show Below w.heap.size w ((w.alloc (.cells #[.int .u64 a0,.int .u64 a1,.int .u64 a2,.int .u64 a3,.int .u64 a4,.int .u64 a5] 88)).alloc (.cells #[.int .u64 b0,.int .u64 b1,.int .u64 b2,.int .u64 b3,.int .u64 b4,.int .u64 b5] 88)) from ((Below.refl _ _).alloc (Nat.le_refl _) _).alloc (by simp) _);have eA:dD [a0,a1,a2,a3,a4,a5]=#[.int .u64 a0,.int .u64 a1,.int .u64 a2,.int .u64 a3,.int .u64 a4,.int .u64 a5]:=rfl;have eB:dD [b0,b1,b2,b3,b4,b5]=#[.int .u64 b0,.int .u64 b1,.int .u64 b2,.int .u64 b3,.int .u64 b4,.int .u64 b5]:=rfl;rw [eA,eB];go_enter Tryz.func72,Tryz.ntmps72;go_wp2_with fail;generalize hw0:((w.alloc (.cells #[.int .u64 a0,.int .u64 a1,.int .u64 a2,.int .u64 a3,.int .u64 a4,.int .u64 a5] 88)).alloc (.cells #[.int .u64 b0,.int .u64 b1,.int .u64 b2,.int .u64 b3,.int .u64 b4,.int .u64 b5] 88))=w1 at *;clear hw0;go_loopw [5] (fun i wx=>∃(k:Nat),k≤6∧i=.int .i64 ((k:Int)-1)∧Hid ([a0,a1,a2,a3,a4,a5].drop k=[b0,b1,b2,b3,b4,b5].drop k)∧Hid (aH wx w.heap.size 88 (dD [a0,a1,a2,a3,a4,a5]))∧Hid (aH wx (w.heap.size+1) 88 (dD [b0,b1,b2,b3,b4,b5]))∧Hid (Below w.heap.size w wx)) (fun i _=>(intOf i+1).toNat)
 case atStart=>exact ⟨6,by omega,rfl,ah rfl,rC,xS,HB0⟩
 case round=>
  clear rC xS HB0 eA eB;obtain ⟨k,hk,rfl,HDR,rC,xS,dI⟩:=hrel;by_cases hk0:k=0
  ·subst hk0
   have HE:=ah (show RES=false by
    rw [HD.out];have h:=HDR.out;rw [List.drop_zero,List.drop_zero] at h;rw [h];simp)
   go_wp2_with fail;go_ret;exact ⟨by rw [HE.out]<;>rfl,dI.out⟩
  ·obtain ⟨j,rfl⟩:∃j,k=j+1:=⟨k-1,by omega⟩;have hj6:j<6:=by omega
   have hj6':(j:Int)<6:=by omega
   have e1:(((j+1:Nat):Int)-1)=(j:Int):=by omega
   rw [e1];have z0:wr.cell? ⟨w.heap.size,j,none⟩=some (.int .u64 ([a0,a1,a2,a3,a4,a5][j]'(by simpa using hj6))):=rC.out.cell (jv (i:=j) (by simpa using hj6));have z1:wr.cell? ⟨w.heap.size+1,j,none⟩=some (.int .u64 ([b0,b1,b2,b3,b4,b5][j]'(by simpa using hj6))):=xS.out.cell (jv (i:=j) (by simpa using hj6));have zl:=xS.out.lt;have yX:=ah (I9 (l:=[a0,a1,a2,a3,a4,a5]) (m:=[b0,b1,b2,b3,b4,b5]) (k:=j) (by simpa using hj6) rfl Dg.out Dc.out HDR.out);have HDM:=ah (Nq (l:=[a0,a1,a2,a3,a4,a5]) (m:=[b0,b1,b2,b3,b4,b5]) (k:=j) (by simpa using hj6) rfl HDR.out);generalize [a0,a1,a2,a3,a4,a5][j]'(by simpa using hj6)=x at *;generalize [b0,b1,b2,b3,b4,b5][j]'(by simpa using hj6)=y at *;have z0':wr.drew.cell? ⟨w.heap.size,j,none⟩=_:=z0;have z1':wr.drew.cell? ⟨w.heap.size+1,j,none⟩=_:=z1;have qQ:=ah dI.out.drew;have R6:=ah dI.out.drew.drew;have HTAD:=ah (show aH wr.drew w.heap.size 88 (dD [a0,a1,a2,a3,a4,a5]) from rC.out);have HTBD:=ah (show aH wr.drew (w.heap.size+1) 88 (dD [b0,b1,b2,b3,b4,b5]) from xS.out);by_cases hxy:x=y
   ·have HN:=ah (HDM.out hxy);subst hxy;have a1:IntKind.i64.wrap ((j:Int)-1)=(j:Int)-1:=IntWalk.i64_in _ (by omega);have hne:(x !=x)=false:=by simp
    clear yX HDM;go_wp2_with fail;go_region
    go_wp2_with fail;go_roundw
    case rel=>exact ⟨j,by omega,by first | rfl | go_num,HN,HTAD,HTBD,qQ⟩
    case measure=>simp [intOf]
   ·have HV:=ah (show RES=decide (x<y) by
     rw [HD.out];by_cases hlt:x<y
     ·rw [decide_eq_true ((yX.out hxy).2 hlt),decide_eq_true hlt]
     ·rw [decide_eq_false fun h=>hlt ((yX.out hxy).1 h),decide_eq_false hlt])
    have hne:(x !=y)=true:=by simpa using hxy
    go_wp2_with fail;go_region
    go_wp2_with fail;go_region
    go_wp2_with fail;go_ret;exact ⟨by rw [HV.out]<;>rfl,R6.out⟩
section
variable {P:Program} {ops:Array Oper} {Q:Exit→Act→World→Prop} {md:Region.Mode}
theorem Jr {l:Array Bool} {i:Nat} (h:l.getD i true=false):∃hi:i<l.size,l[i]=false:=by
 by_cases hi:i<l.size
 ·refine ⟨hi,?_⟩;simpa [Array.getD,hi] using h
 ·simp [Array.getD,hi] at h
end
end Go.Proofs.YtopmdeefcjdadaaGreat
