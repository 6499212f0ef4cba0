import Derived.Test.YtopmdeefcjdadaaGreatT41M00
import Derived.Test.YtopmdeefcjdadaaGreatT41M15
import Derived.BigRegion
import Derived.Deep.QuietTactic
import Derived.BigQuiet
import Derived.Test.YtopmdeefcjdadaaGreatProg
import Derived.RegionTactic
import Derived.WalkKit
set_option linter.unusedVariables false
set_option linter.unusedSimpArgs false
set_option maxRecDepth 100000
set_option maxHeartbeats 32000000
namespace Go.Proofs.YtopmdeefcjdadaaGreat
open Go.RowKit
def tY (y:Int) (l:List Int) (out:List Int) (i k:Nat) (cur:List Int) (c:Int):Prop:=
 eH c∧cur.length=out.length∧cur.take i=out.take i∧∃done,done.length=k∧cur.drop i=done++(out.drop i).drop k∧lW y (out.drop i) l 0=done++lW y ((out.drop i).drop k) (l.drop k) c
theorem Ci (y:Int) (l out:List Int) (i:Nat):tY y l out i 0 out 0:=⟨⟨by decide,by decide⟩,rfl,rfl,[],rfl,rfl,rfl⟩
theorem EC {y:Int} {l out cur:List Int} {i k:Nat} {c:Int} (h:tY y l out i k cur c) (hk:i+k<out.length) (hkl:k<l.length) (hl:Words l) (ho:Words out) (hy:eH y) :
  tY y l out i (k+1) (cur.set (i+k) (jk (out[i+k]+l[k]*y+c))) (iM (out[i+k]+l[k]*y+c)):=by
 obtain ⟨hc,h1,h2,done,h3,h4,h5⟩:=h;have hx:=hl _ (List.getElem_mem hkl);have ho':=ho _ (List.getElem_mem hk)
 have e:(out.drop i).drop k=out[i+k]::(out.drop i).drop (k+1):=by
  rw [List.drop_drop,List.drop_drop,show i+(k+1)=i+k+1 by omega];exact List.drop_eq_getElem_cons hk
 refine ⟨qX ho' hx hy hc,by rw [List.length_set];exact h1,by rw [List.take_set_of_le (by omega)];exact h2,done++[jk (out[i+k]+l[k]*y+c)],by simp [h3],?_,?_⟩
 ·rw [List.drop_set,if_neg (by omega),h4,show i+k-i=k by omega,List.set_append_right _ _ (by omega),h3,Nat.sub_self,e,List.set_cons_zero,List.append_assoc];rfl
 ·rw [h5,e,List.drop_eq_getElem_cons hkl,lW];simp
theorem GY {y:Int} {l out cur:List Int} {i k:Nat} {c:Int} (h:tY y l out i k cur c) (hk:i+k<out.length) (hc:i+k<cur.length):cur[i+k]=out[i+k]:=by
 obtain ⟨_,h1,h2,done,h3,h4,h5⟩:=h;have a:=congrArg (fun z=>z[k]?) h4;simp only [List.getElem?_drop] at a;rw [List.getElem?_append_right (by omega),h3,Nat.sub_self,List.getElem?_drop,List.getElem?_drop,Nat.add_zero,List.getElem?_eq_getElem hc,List.getElem?_eq_getElem hk] at a;exact Option.some.inj a
theorem GZ {y:Int} {l out cur:List Int} {i k:Nat} {c:Int} (h:tY y l out i k cur c) (hk:i+k=out.length) (hl:k≤l.length):cur=out.take i++lW y (out.drop i) l 0:=by
 obtain ⟨_,h1,h2,done,h3,h4,h5⟩:=h;have e:(out.drop i).drop k=[]:=by rw [List.drop_drop];exact List.drop_eq_nil_of_le (by omega)
 rw [e,List.append_nil] at h4;rw [e] at h5;have e2:lW y [] (l.drop k) c=[]:=by cases l.drop k<;>rfl
 rw [e2,List.append_nil] at h5;rw [h5,←h4,←h2,List.take_append_drop]
theorem GX {y:Int} {l out cur:List Int} {i k:Nat} {c:Int} (h:tY y l out i k cur c):cur.length=out.length:=h.2.1
def Bv (l m uz:List Int) (i:Nat) (out:List Int):Prop:=Words out∧out.length=uz.length∧mulL l m uz=out.take i++mulL l (m.drop i) (out.drop i)
theorem EB {l m uz:List Int} (h:Words uz):Bv l m uz 0 uz:=⟨h,rfl,rfl⟩
theorem KJ {l m out os:List Int} {y o:Int} (h:lW y out l 0=o::os):mulL l (y::m) out=o::mulL l m os:=by rw [mulL,h]
theorem GV {l m uz out:List Int} {i:Nat} (h:Bv l m uz i out) (hi:i<m.length) (hm:m.length=uz.length) :
  Bv l m uz (i+1) (out.take i++lW m[i] (out.drop i) l 0):=by
 obtain ⟨h1,h2,h3⟩:=h;have hr:=uq m[i] (out.drop i) l 0;have hw:Words (out.drop i):=fun x hx=>h1 x (List.mem_of_mem_drop hx);have hrw:=oM m[i] (out.drop i) l 0 hw;have ht:(out.take i).length=i:=by rw [List.length_take];omega
 refine ⟨fun x hx=>?_,?_,?_⟩
 ·rcases List.mem_append.1 hx with k | k
  ·exact h1 x (List.mem_of_mem_take k)
  ·exact hrw x k
 ·rw [List.length_append,hr,←List.length_append,List.take_append_drop,h2]
 ·rw [h3,List.drop_eq_getElem_cons hi]
  cases hc:lW m[i] (out.drop i) l 0 with
  | nil=>rw [hc] at hr;rw [List.length_drop] at hr;simp at hr;omega
  | cons o os=>
   rw [KJ hc,List.take_append,ht,List.drop_append,ht,List.take_take,Nat.min_eq_right (by omega),show i+1-i=1 by omega];have e1:List.drop (i+1) (out.take i)=[]:=List.drop_eq_nil_of_le (by omega);rw [e1,List.take_succ_cons,List.take_zero,List.drop_succ_cons,List.drop_zero,List.append_assoc];rfl
theorem KL {l m uz out:List Int} (h:Bv l m uz m.length out) (hm:m.length=uz.length):out=mulL l m uz:=by
 obtain ⟨h1,h2,h3⟩:=h;rw [h3,List.drop_length];exact (List.take_append_drop _ _).symm
theorem O6 (N M:Int) (w:World) (hN:0≤N) (hN6:N<bB 6) (hM:0≤M) (hM6:M<bB 6) (hf:N*M<bB 6) :
  Calls Tryz.prog 68 #[gU N,gU M] w fun e w'=>e=.returned (gU (N*M))∧Below w.heap.size w w':=by
 have Bz:=ah (fE 6 N);have Bw:=ah (fE 6 M);have Dz:=ah (iC 6 N hN hN6);have Dy:=ah (iC 6 M hM hM6);obtain ⟨a0,a1,a2,a3,a4,a5,hA⟩:=six (iE 6 N);obtain ⟨b0,b1,b2,b3,b4,b5,hB⟩:=six (iE 6 M)
 have hz:Words [0,0,0,0,0,0]:=fun x hx=>by
  simp at hx;subst hx;exact ⟨by decide,by decide⟩
 have HG:=ah (show gU (N*M)=.agg (dw (mulL [a0,a1,a2,a3,a4,a5] [b0,b1,b2,b3,b4,b5] [0,0,0,0,0,0])) from by
  rw [hA] at Bz Dz;rw [hB] at Bw Dy;have hv0:bq [0,0,0,0,0,0]=0:=by simp [bq]
  have h1:=Ez Bz.out [b0,b1,b2,b3,b4,b5] [0,0,0,0,0,0] rfl (Nat.le_refl _) Bw.out hz (by rw [Dz.out,Dy.out,hv0,Int.zero_add];exact hf);rw [Dz.out,Dy.out,hv0,Int.zero_add] at h1;rw [←h1];exact uK (EA _ _ _) (yO _ _ _ hz))
 rw [HG.out];unfold gU;rw [hA] at Bz Dz ⊢;rw [hB] at Bw Dy ⊢;clear hf hN hM hA hB HG hN6 hM6;have qw:=ah (show aG ((((w.alloc (.cells #[.int .u64 a0,.int .u64 a1,.int .u64 a2,.int .u64 a3,.int .u64 a4,.int .u64 a5] 88)).alloc (.cells #[.int .u64 b0,.int .u64 b1,.int .u64 b2,.int .u64 b3,.int .u64 b4,.int .u64 b5] 88)).alloc (.cells #[.int .u64 0,.int .u64 0,.int .u64 0,.int .u64 0,.int .u64 0,.int .u64 0] 88)).alloc (.cells #[.int .u64 0,.int .u64 0,.int .u64 0,.int .u64 0,.int .u64 0,.int .u64 0] 88)) w.heap.size 88 (dw [a0,a1,a2,a3,a4,a5]) from (((aG.new w _ _).alloc _).alloc _).alloc _)
 have wL:=ah (show aG ((((w.alloc (.cells #[.int .u64 a0,.int .u64 a1,.int .u64 a2,.int .u64 a3,.int .u64 a4,.int .u64 a5] 88)).alloc (.cells #[.int .u64 b0,.int .u64 b1,.int .u64 b2,.int .u64 b3,.int .u64 b4,.int .u64 b5] 88)).alloc (.cells #[.int .u64 0,.int .u64 0,.int .u64 0,.int .u64 0,.int .u64 0,.int .u64 0] 88)).alloc (.cells #[.int .u64 0,.int .u64 0,.int .u64 0,.int .u64 0,.int .u64 0,.int .u64 0] 88)) (w.heap.size+1) 88 #[.int .u64 b0,.int .u64 b1,.int .u64 b2,.int .u64 b3,.int .u64 b4,.int .u64 b5] from by
  have h:=((aG.new (w.alloc (.cells #[.int .u64 a0,.int .u64 a1,.int .u64 a2,.int .u64 a3,.int .u64 a4,.int .u64 a5] 88)) #[.int .u64 b0,.int .u64 b1,.int .u64 b2,.int .u64 b3,.int .u64 b4,.int .u64 b5] 88).alloc (.cells #[.int .u64 0,.int .u64 0,.int .u64 0,.int .u64 0,.int .u64 0,.int .u64 0] 88)).alloc (.cells #[.int .u64 0,.int .u64 0,.int .u64 0,.int .u64 0,.int .u64 0,.int .u64 0] 88);simpa only [World.size_alloc] using h)
 have zH:=ah (show aG ((((w.alloc (.cells #[.int .u64 a0,.int .u64 a1,.int .u64 a2,.int .u64 a3,.int .u64 a4,.int .u64 a5] 88)).alloc (.cells #[.int .u64 b0,.int .u64 b1,.int .u64 b2,.int .u64 b3,.int .u64 b4,.int .u64 b5] 88)).alloc (.cells #[.int .u64 0,.int .u64 0,.int .u64 0,.int .u64 0,.int .u64 0,.int .u64 0] 88)).alloc (.cells #[.int .u64 0,.int .u64 0,.int .u64 0,.int .u64 0,.int .u64 0,.int .u64 0] 88)) (w.heap.size+2) 88 #[.int .u64 0,.int .u64 0,.int .u64 0,.int .u64 0,.int .u64 0,.int .u64 0] from by
  have h:=(aG.new ((w.alloc (.cells #[.int .u64 a0,.int .u64 a1,.int .u64 a2,.int .u64 a3,.int .u64 a4,.int .u64 a5] 88)).alloc (.cells #[.int .u64 b0,.int .u64 b1,.int .u64 b2,.int .u64 b3,.int .u64 b4,.int .u64 b5] 88)) #[.int .u64 0,.int .u64 0,.int .u64 0,.int .u64 0,.int .u64 0,.int .u64 0] 88).alloc (.cells #[.int .u64 0,.int .u64 0,.int .u64 0,.int .u64 0,.int .u64 0,.int .u64 0] 88);simpa only [World.size_alloc] using h)
 have MP:=ah (show aG ((((w.alloc (.cells #[.int .u64 a0,.int .u64 a1,.int .u64 a2,.int .u64 a3,.int .u64 a4,.int .u64 a5] 88)).alloc (.cells #[.int .u64 b0,.int .u64 b1,.int .u64 b2,.int .u64 b3,.int .u64 b4,.int .u64 b5] 88)).alloc (.cells #[.int .u64 0,.int .u64 0,.int .u64 0,.int .u64 0,.int .u64 0,.int .u64 0] 88)).alloc (.cells #[.int .u64 0,.int .u64 0,.int .u64 0,.int .u64 0,.int .u64 0,.int .u64 0] 88)) (w.heap.size+3) 88 (dw [0,0,0,0,0,0]) from by
  have h:=aG.new (((w.alloc (.cells #[.int .u64 a0,.int .u64 a1,.int .u64 a2,.int .u64 a3,.int .u64 a4,.int .u64 a5] 88)).alloc (.cells #[.int .u64 b0,.int .u64 b1,.int .u64 b2,.int .u64 b3,.int .u64 b4,.int .u64 b5] 88)).alloc (.cells #[.int .u64 0,.int .u64 0,.int .u64 0,.int .u64 0,.int .u64 0,.int .u64 0] 88)) #[.int .u64 0,.int .u64 0,.int .u64 0,.int .u64 0,.int .u64 0,.int .u64 0] 88;simp only [World.size_alloc] at h;exact h)
 have HB0:=ah (show Below w.heap.size w ((((w.alloc (.cells #[.int .u64 a0,.int .u64 a1,.int .u64 a2,.int .u64 a3,.int .u64 a4,.int .u64 a5] 88)).alloc (.cells #[.int .u64 b0,.int .u64 b1,.int .u64 b2,.int .u64 b3,.int .u64 b4,.int .u64 b5] 88)).alloc (.cells #[.int .u64 0,.int .u64 0,.int .u64 0,.int .u64 0,.int .u64 0,.int .u64 0] 88)).alloc (.cells #[.int .u64 0,.int .u64 0,.int .u64 0,.int .u64 0,.int .u64 0,.int .u64 0] 88)) from ((((Below.refl _ _).alloc (Nat.le_refl _) _).alloc (by simp) _).alloc (by simp;omega) _).alloc (by simp;omega) _);have eA:dw [a0,a1,a2,a3,a4,a5]=#[.int .u64 a0,.int .u64 a1,.int .u64 a2,.int .u64 a3,.int .u64 a4,.int .u64 a5]:=rfl;have eB:dw [b0,b1,b2,b3,b4,b5]=#[.int .u64 b0,.int .u64 b1,.int .u64 b2,.int .u64 b3,.int .u64 b4,.int .u64 b5]:=rfl;rw [eA,eB];have HIX:=ah (fun i hi=>zi b0 b1 b2 b3 b4 b5 i hi);have xR:=ah (EB (l:=[a0,a1,a2,a3,a4,a5]) (m:=[b0,b1,b2,b3,b4,b5]) hz);go_enter Tryz.func68,Tryz.ntmps68;go_wp2_with fail;generalize hw0:((((w.alloc (.cells #[.int .u64 a0,.int .u64 a1,.int .u64 a2,.int .u64 a3,.int .u64 a4,.int .u64 a5] 88)).alloc (.cells #[.int .u64 b0,.int .u64 b1,.int .u64 b2,.int .u64 b3,.int .u64 b4,.int .u64 b5] 88)).alloc (.cells #[.int .u64 0,.int .u64 0,.int .u64 0,.int .u64 0,.int .u64 0,.int .u64 0] 88)).alloc (.cells #[.int .u64 0,.int .u64 0,.int .u64 0,.int .u64 0,.int .u64 0,.int .u64 0] 88))=w1 at *;clear hw0;have y0:=wL.out.cell (i:=0) rfl;have y1:=wL.out.cell (i:=1) rfl;have y2:=wL.out.cell (i:=2) rfl;have y3:=wL.out.cell (i:=3) rfl;have y4:=wL.out.cell (i:=4) rfl;have y5:=wL.out.cell (i:=5) rfl;have yl:=wL.out.lt;go_wp2_with fail;clear y0 y1 y2 y3 y4 y5 yl eA eB;go_loopw [15] (fun i wx=>∃(k:Nat) (out:List Int),k≤6∧i=.int .i64 k∧Hid (Bv [a0,a1,a2,a3,a4,a5] [b0,b1,b2,b3,b4,b5] [0,0,0,0,0,0] k out)∧Hid (aG wx (w.heap.size+3) 88 (dw out))∧Hid (aG wx w.heap.size 88 (dw [a0,a1,a2,a3,a4,a5]))∧Hid (aG wx (w.heap.size+2) 88 #[.int .u64 0,.int .u64 0,.int .u64 0,.int .u64 0,.int .u64 0,.int .u64 0])∧Hid (Below w.heap.size w wx)) (fun i _=>6-(intOf i).toNat)
 case atStart=>exact ⟨0,_,by omega,rfl,xR,MP,qw,zH,HB0⟩
 case round=>
  clear qw wL zH MP HB0 xR;obtain ⟨i,out,hi,rfl,DI,MP,qw,zH,dN⟩:=hrel;by_cases hi6:i<6
  ·have hi6':(i:Int)<6:=by omega
   have hix:=HIX.out i hi6;have hy:eH ([b0,b1,b2,b3,b4,b5][i]'(by simpa using hi6)):=Bw.out _ (List.getElem_mem _);have uU:=ah (GV DI.out (by simpa using hi6) rfl);have HWO:=ah DI.out.1;have hol:out.length=6:=DI.out.2.1;generalize [b0,b1,b2,b3,b4,b5][i]'(by simpa using hi6)=y at *;have HY:=ah hy;have zK:=ah (Ci y [a0,a1,a2,a3,a4,a5] out i);clear hy DI;go_wp2_with fail;clear hix;obtain ⟨wo,rfl⟩:∃wo:World,wo=wr:=⟨_,rfl⟩;go_loopw [9,8] (fun j c wx=>∃(k:Nat) (cur:List Int) (cc:Int),i+k≤6∧j=.int .i64 k∧c=.int .u64 cc∧Hid (tY y [a0,a1,a2,a3,a4,a5] out i k cur cc)∧Hid (aG wx (w.heap.size+3) 88 (dw cur))∧Hid (aG wx w.heap.size 88 (dw [a0,a1,a2,a3,a4,a5]))∧Hid (aG wx (w.heap.size+2) 88 #[.int .u64 0,.int .u64 0,.int .u64 0,.int .u64 0,.int .u64 0,.int .u64 0])∧Hid (Below w.heap.size w wx)) (fun j _ _=>6-i-(intOf j).toNat)
   case atStart=>exact ⟨0,_,0,by omega,rfl,rfl,zK,MP,qw,zH,dN⟩
   case round=>
    clear qw zH MP dN zK;obtain ⟨k,cur,cc,hk,rfl,rfl,HRA,MP,qw,zH,dN⟩:=hrel;have hlen:=GX HRA.out;have aw:IntKind.i64.wrap ((i:Int)+(k:Int))=((i+k:Nat):Int):=by rw [←Int.natCast_add];exact IntWalk.i64_in _ (by omega)
    have hrl:=MP.out.lt;by_cases sM:i+k<6
    ·have hk6':((i+k:Nat):Int)<6:=by omega
     have OW:k<6:=by omega
     have hkk6':(k:Int)<6:=by omega
     have hx:eH ([a0,a1,a2,a3,a4,a5][k]'(by simpa using OW)):=Bz.out _ (List.getElem_mem _);have ho:eH (out[i+k]'(by omega)):=HWO.out _ (List.getElem_mem _);have HNR:=ah (EC HRA.out (by omega) (by simpa using OW) Bz.out HWO.out HY.out);have hcc:=HRA.out.1;have z0:wr.cell? ⟨w.heap.size,k,none⟩=some (.int .u64 ([a0,a1,a2,a3,a4,a5][k]'(by simpa using OW))):=qw.out.cell (jd (i:=k) (by simpa using OW))
     have z1:wr.cell? ⟨w.heap.size+3,i+k,none⟩=some (.int .u64 (out[i+k]'(by omega))):=by
      have h:=MP.out.cell (jd (i:=i+k) (by omega));rw [GY HRA.out (by omega) (by omega)] at h;exact h
     have zf:=MP.out.frozen (i+k);generalize [a0,a1,a2,a3,a4,a5][k]'(by simpa using OW)=x at *;generalize out[i+k]'(by omega)=o at *;obtain ⟨q1,q2,q3,q4⟩:=J9 ho hx HY.out hcc;have HM:=ah (fun W=>mul64 x y hx HY.out W);have hadd1:=fun W=>CG (jk (x*y)) cc (fA (x*y)) hcc W;have hadd2:=fun W=>CG o (jk (jk (x*y)+cc)) ho (fA _) W;rw [q1] at hadd2;have hcw:=qX ho hx HY.out hcc;generalize jk (o+x*y+cc)=rv at *;generalize iM (o+x*y+cc)=cv at *;generalize iM (o+jk (jk (x*y)+cc))=c2 at *;generalize iM (x*y+cc)=h2 at *;generalize iM (jk (x*y)+cc)=c1 at *;generalize jk (jk (x*y)+cc)=sv at *;generalize iM (x*y)=hv at *;generalize jk (x*y)=lv at *;have HT2:=ah (MP.out.set (i+k) (.int .u64 rv));rw [rY] at HT2;have IK:=ah (qw.out.setOther (b':=w.heap.size+3) (i:=i+k) (by omega) (.int .u64 rv));have P8:=ah (zH.out.setOther (b':=w.heap.size+3) (i:=i+k) (by omega) (.int .u64 rv));have HB2:=ah (dN.out.setCell (p:=⟨w.heap.size+3,i+k,none⟩) (by simp) (.int .u64 rv));clear HRA hx ho hcc hlen q1 q4 hcw;go_wp2_with (first | (go_at_call 95;refine (HM.out _).mono ?_;rintro e w' ⟨rfl,rfl⟩) | fail);go_roundw
     case rel=>exact ⟨k+1,_,cv,by omega,by first | rfl | go_num,rfl,HNR,HT2,IK,P8,HB2⟩
     case measure=>simp [intOf];omega
    ·have hkk:¬(((i+k:Nat):Int)<6):=by omega
     have HE:=ah (GZ HRA.out (by omega) (by simp;omega));have HM2:=ah (show Bv [a0,a1,a2,a3,a4,a5] [b0,b1,b2,b3,b4,b5] [0,0,0,0,0,0] (i+1) cur by rw [HE.out];exact uU.out);go_wp2_with fail;go_roundw
     case rel=>exact ⟨i+1,cur,by omega,by first | rfl | go_num,HM2,MP,qw,zH,dN⟩
     case measure=>simp [intOf];omega
  ·have hkk:i=6:=by omega
   subst hkk;have HE:=ah (KL DI.out rfl);have hlen:out.length=6:=DI.out.2.1;obtain ⟨c0,c1,c2,c3,c4,c5,rfl⟩:=six hlen;have ht:=MP.out;have e0:dw [c0,c1,c2,c3,c4,c5]=#[.int .u64 c0,.int .u64 c1,.int .u64 c2,.int .u64 c3,.int .u64 c4,.int .u64 c5]:=rfl;rw [e0] at ht;have y0:=aG.cell (i:=0) ht rfl;have y1:=aG.cell (i:=1) ht rfl;have y2:=aG.cell (i:=2) ht rfl;have y3:=aG.cell (i:=3) ht rfl;have y4:=aG.cell (i:=4) ht rfl;have y5:=aG.cell (i:=5) ht rfl;have yl:=aG.lt ht;have hr:=zH.out;have r0:=aG.cell (i:=0) hr rfl;have r1:=aG.cell (i:=1) hr rfl;have r2:=aG.cell (i:=2) hr rfl;have r3:=aG.cell (i:=3) hr rfl;have r4:=aG.cell (i:=4) hr rfl;have r5:=aG.cell (i:=5) hr rfl;have rf0:=aG.frozen hr 0;have rf1:=aG.frozen hr 1;have rf2:=aG.frozen hr 2;have rf3:=aG.frozen hr 3;have rf4:=aG.frozen hr 4;have rf5:=aG.frozen hr 5;have gV:=ah ((((((dN.out.setCell (p:=⟨w.heap.size+2,0,none⟩) (by simp) (.int .u64 c0)).setCell (p:=⟨w.heap.size+2,1,none⟩) (by simp) (.int .u64 c1)).setCell (p:=⟨w.heap.size+2,2,none⟩) (by simp) (.int .u64 c2)).setCell (p:=⟨w.heap.size+2,3,none⟩) (by simp) (.int .u64 c3)).setCell (p:=⟨w.heap.size+2,4,none⟩) (by simp) (.int .u64 c4)).setCell (p:=⟨w.heap.size+2,5,none⟩) (by simp) (.int .u64 c5));clear hr ht;go_wp2_with fail;exact bodyPost_ret (v:=.agg #[.int .u64 c0,.int .u64 c1,.int .u64 c2,.int .u64 c3,.int .u64 c4,.int .u64 c5]) (by simp [results,Tryz.results68,go_sem,r0,r1,r2,r3,r4,r5]) rfl ⟨by rw [←HE.out];rfl,gV.out⟩
theorem sub64 (x y c:Int) (hx:eH x) (hy:eH y) (hc0:0≤c) (hc1:c≤1) (w:World) :
  (callFunc 98 #[.int .u64 x,.int .u64 y,.int .u64 c]).run Tryz.prog w=.ok (.value (.tuple #[.int .u64 (jk (x-y-c)),.int .u64 (-iM (x-y-c))])) w:=by
 obtain ⟨hx0,hx1⟩:=hx;obtain ⟨hy0,hy1⟩:=hy;obtain ⟨a,rfl⟩:=Int.eq_ofNat_of_zero_le hx0;obtain ⟨b,rfl⟩:=Int.eq_ofNat_of_zero_le hy0;obtain ⟨d,rfl⟩:=Int.eq_ofNat_of_zero_le hc0;rw [run_callFunc_extern Tryz.func98 (by kernel_rfl) (by kernel_rfl) (by kernel_rfl) (e:=sub64Entry) (by kernel_rfl),run_sub64 a b d (by omega)];simp only [Result.andThen];have e1:(((a+18446744073709551616-b-d) % 18446744073709551616:Nat):Int)=jk ((a:Int)-b-d):=by unfold jk;omega
 have e2:((if a<b+d then 1 else 0:Nat):Int)=-iM ((a:Int)-b-d):=by
  unfold iM;by_cases h:a<b+d
  ·rw [if_pos h];omega
  ·rw [if_neg h];omega
 rw [e1,e2]
def pG (l m:List Int) (i:Nat) (cur:List Int) (c:Int):Prop:=(0≤c∧c≤1)∧∃done,done.length=i∧cur=done++l.drop i∧iR l m 0=done++iR (l.drop i) (m.drop i) c
theorem Ai (l m:List Int):pG l m 0 l 0:=⟨⟨by decide,by decide⟩,[],rfl,rfl,rfl⟩
theorem Fy {x y c:Int} (hx:eH x) (hy:eH y) (hc:0≤c∧c≤1):0≤-iM (x-y-c)∧-iM (x-y-c)≤1:=by
 unfold eH at *;unfold iM;omega
theorem Dj {l m:List Int} {i:Nat} {cur:List Int} {c:Int} (h:pG l m i cur c) (hi:i<l.length) (hm:i<m.length) (hl:Words l) (hw:Words m) :
  pG l m (i+1) (cur.set i (jk (l[i]-m[i]-c))) (-iM (l[i]-m[i]-c)):=by
 obtain ⟨hc,done,h1,h2,h3⟩:=h;have hx:=hl _ (List.getElem_mem hi);have hy:=hw _ (List.getElem_mem hm);refine ⟨Fy hx hy hc,done++[jk (l[i]-m[i]-c)],by simp [h1],?_,?_⟩
 ·rw [h2,List.set_append_right _ _ (by omega),h1,Nat.sub_self,List.drop_eq_getElem_cons hi,List.set_cons_zero,List.append_assoc];rfl
 ·rw [h3,List.drop_eq_getElem_cons hi,List.drop_eq_getElem_cons hm,iR];simp
theorem FI {l m:List Int} {cur:List Int} {c:Int} (h:pG l m l.length cur c) (hlm:l.length=m.length):cur=iR l m 0:=by
 obtain ⟨hc,done,h1,h2,h3⟩:=h;have e:iR [] (m.drop l.length) c=[]:=by unfold iR;rfl
 rw [List.drop_length] at h2 h3;rw [h2,h3,e]
theorem Fz {l m:List Int} {i:Nat} {cur:List Int} {c:Int} (h:pG l m i cur c) (hi:i≤l.length):cur.length=l.length:=by
 obtain ⟨hc,done,h1,h2,h3⟩:=h;rw [h2,List.length_append,List.length_drop,h1];omega
theorem FH {l m:List Int} {i:Nat} {cur:List Int} {c:Int} (h:pG l m i cur c) (hi:i<l.length) (hc:i<cur.length):cur[i]=l[i]:=by
 obtain ⟨_,done,h1,h2,_⟩:=h;subst h2;rw [List.getElem_append_right (by omega),List.getElem_drop];congr 1
 omega
theorem Hy (N M:Int) (w:World) (hN:N<bB 6) (hM:0≤M) (hf:M≤N) :
  Calls Tryz.prog 73 #[gU N,gU M] w fun e w'=>e=.returned (gU (N-M))∧Below w.heap.size w w':=by
 have Bz:=ah (fE 6 N);have Bw:=ah (fE 6 M);have Dz:=ah (iC 6 N (by omega) (by omega));have Dy:=ah (iC 6 M (by omega) (by omega));have HF:=ah hf;have HNN:=ah hN;obtain ⟨a0,a1,a2,a3,a4,a5,hA⟩:=six (iE 6 N);obtain ⟨b0,b1,b2,b3,b4,b5,hB⟩:=six (iE 6 M)
 have HG:=ah (show gU (N-M)=.agg (dw (iR [a0,a1,a2,a3,a4,a5] [b0,b1,b2,b3,b4,b5] 0)) from by
  rw [hA] at Bz Dz;rw [hB] at Bw Dy;have h1:=yP [a0,a1,a2,a3,a4,a5] [b0,b1,b2,b3,b4,b5] 0 rfl Bz.out Bw.out (by rw [Dz.out,Dy.out];omega) (by rw [Dz.out,Dy.out];show _<bB 6;omega);rw [Dz.out,Dy.out,Int.sub_zero] at h1;rw [←h1];exact uK (yQ _ _ _ rfl) (uE _ _ _))
 rw [HG.out];unfold gU;rw [hA] at Bz Dz ⊢;rw [hB] at Bw Dy ⊢;clear hf hN hM hA hB HG;have qw:=ah (show aG (((w.alloc (.cells #[.int .u64 a0,.int .u64 a1,.int .u64 a2,.int .u64 a3,.int .u64 a4,.int .u64 a5] 88)).alloc (.cells #[.int .u64 b0,.int .u64 b1,.int .u64 b2,.int .u64 b3,.int .u64 b4,.int .u64 b5] 88)).alloc (.cells #[.int .u64 0,.int .u64 0,.int .u64 0,.int .u64 0,.int .u64 0,.int .u64 0] 88)) w.heap.size 88 (dw [a0,a1,a2,a3,a4,a5]) from ((aG.new w _ _).alloc _).alloc _)
 have wL:=ah (show aG (((w.alloc (.cells #[.int .u64 a0,.int .u64 a1,.int .u64 a2,.int .u64 a3,.int .u64 a4,.int .u64 a5] 88)).alloc (.cells #[.int .u64 b0,.int .u64 b1,.int .u64 b2,.int .u64 b3,.int .u64 b4,.int .u64 b5] 88)).alloc (.cells #[.int .u64 0,.int .u64 0,.int .u64 0,.int .u64 0,.int .u64 0,.int .u64 0] 88)) (w.heap.size+1) 88 #[.int .u64 b0,.int .u64 b1,.int .u64 b2,.int .u64 b3,.int .u64 b4,.int .u64 b5] from by
  have h:=(aG.new (w.alloc (.cells #[.int .u64 a0,.int .u64 a1,.int .u64 a2,.int .u64 a3,.int .u64 a4,.int .u64 a5] 88)) #[.int .u64 b0,.int .u64 b1,.int .u64 b2,.int .u64 b3,.int .u64 b4,.int .u64 b5] 88).alloc (.cells #[.int .u64 0,.int .u64 0,.int .u64 0,.int .u64 0,.int .u64 0,.int .u64 0] 88);simpa only [World.size_alloc] using h)
 have zH:=ah (show aG (((w.alloc (.cells #[.int .u64 a0,.int .u64 a1,.int .u64 a2,.int .u64 a3,.int .u64 a4,.int .u64 a5] 88)).alloc (.cells #[.int .u64 b0,.int .u64 b1,.int .u64 b2,.int .u64 b3,.int .u64 b4,.int .u64 b5] 88)).alloc (.cells #[.int .u64 0,.int .u64 0,.int .u64 0,.int .u64 0,.int .u64 0,.int .u64 0] 88)) (w.heap.size+2) 88 #[.int .u64 0,.int .u64 0,.int .u64 0,.int .u64 0,.int .u64 0,.int .u64 0] from by
  have h:=aG.new ((w.alloc (.cells #[.int .u64 a0,.int .u64 a1,.int .u64 a2,.int .u64 a3,.int .u64 a4,.int .u64 a5] 88)).alloc (.cells #[.int .u64 b0,.int .u64 b1,.int .u64 b2,.int .u64 b3,.int .u64 b4,.int .u64 b5] 88)) #[.int .u64 0,.int .u64 0,.int .u64 0,.int .u64 0,.int .u64 0,.int .u64 0] 88;simpa only [World.size_alloc] using h)
 have HB0:=ah (show Below w.heap.size w (((w.alloc (.cells #[.int .u64 a0,.int .u64 a1,.int .u64 a2,.int .u64 a3,.int .u64 a4,.int .u64 a5] 88)).alloc (.cells #[.int .u64 b0,.int .u64 b1,.int .u64 b2,.int .u64 b3,.int .u64 b4,.int .u64 b5] 88)).alloc (.cells #[.int .u64 0,.int .u64 0,.int .u64 0,.int .u64 0,.int .u64 0,.int .u64 0] 88)) from (((Below.refl _ _).alloc (Nat.le_refl _) _).alloc (by simp) _).alloc (by simp;omega) _);have eA:dw [a0,a1,a2,a3,a4,a5]=#[.int .u64 a0,.int .u64 a1,.int .u64 a2,.int .u64 a3,.int .u64 a4,.int .u64 a5]:=rfl;have eB:dw [b0,b1,b2,b3,b4,b5]=#[.int .u64 b0,.int .u64 b1,.int .u64 b2,.int .u64 b3,.int .u64 b4,.int .u64 b5]:=rfl;rw [eA,eB];have HS0:=ah (Ai [a0,a1,a2,a3,a4,a5] [b0,b1,b2,b3,b4,b5]);go_enter Tryz.func73,Tryz.ntmps73;go_wp2_with fail;generalize hw0:(((w.alloc (.cells #[.int .u64 a0,.int .u64 a1,.int .u64 a2,.int .u64 a3,.int .u64 a4,.int .u64 a5] 88)).alloc (.cells #[.int .u64 b0,.int .u64 b1,.int .u64 b2,.int .u64 b3,.int .u64 b4,.int .u64 b5] 88)).alloc (.cells #[.int .u64 0,.int .u64 0,.int .u64 0,.int .u64 0,.int .u64 0,.int .u64 0] 88))=w1 at *;clear hw0;go_loopw [7,5] (fun i c wx=>∃(k:Nat) (cur:List Int) (cc:Int),k≤6∧i=.int .i64 k∧c=.int .u64 cc∧Hid (pG [a0,a1,a2,a3,a4,a5] [b0,b1,b2,b3,b4,b5] k cur cc)∧Hid (aG wx w.heap.size 88 (dw cur))∧Hid (aG wx (w.heap.size+1) 88 #[.int .u64 b0,.int .u64 b1,.int .u64 b2,.int .u64 b3,.int .u64 b4,.int .u64 b5])∧Hid (aG wx (w.heap.size+2) 88 #[.int .u64 0,.int .u64 0,.int .u64 0,.int .u64 0,.int .u64 0,.int .u64 0])∧Hid (Below w.heap.size w wx)) (fun i _ _=>6-(intOf i).toNat)
 case atStart=>exact ⟨0,_,0,by omega,rfl,rfl,HS0,qw,wL,zH,HB0⟩
 case round=>
  clear qw wL zH HB0 HS0;obtain ⟨k,cur,cc,hk,rfl,rfl,HA,qw,wL,zH,dN⟩:=hrel;have hlen:=Fz HA.out (by simpa using hk);have hrl:=zH.out.lt;by_cases sM:k<6
  ·have hk6':(k:Int)<6:=by omega
   have hx:eH ([a0,a1,a2,a3,a4,a5][k]'(by simpa using sM)):=Bz.out _ (List.getElem_mem _);have hy:eH ([b0,b1,b2,b3,b4,b5][k]'(by simpa using sM)):=Bw.out _ (List.getElem_mem _);have uU:=ah (Dj HA.out (by simpa using sM) (by simpa using sM) Bz.out Bw.out);have hcc:=HA.out.1
   have z0:wr.cell? ⟨w.heap.size,k,none⟩=some (.int .u64 ([a0,a1,a2,a3,a4,a5][k]'(by simpa using sM))):=by
    have h:=qw.out.cell (jd (i:=k) (by rw [hlen];simpa using sM));rw [FH HA.out (by simpa using sM)] at h;exact h
   have z1:wr.cell? ⟨w.heap.size+1,k,none⟩=some (.int .u64 ([b0,b1,b2,b3,b4,b5][k]'(by simpa using sM))):=aG.cell (show aG wr _ _ (dw [b0,b1,b2,b3,b4,b5]) from wL.out) (jd (i:=k) (by simpa using sM));have zf:=qw.out.frozen k;generalize [a0,a1,a2,a3,a4,a5][k]'(by simpa using sM)=x at *;generalize [b0,b1,b2,b3,b4,b5][k]'(by simpa using sM)=y at *;have hadd:=fun W=>sub64 x y cc hx hy hcc.1 hcc.2 W;generalize jk (x-y-cc)=sv at *;generalize -iM (x-y-cc)=cv at *;have HT2:=ah (qw.out.set k (.int .u64 sv));rw [rY] at HT2;have HTB2:=ah (wL.out.setOther (b':=w.heap.size) (i:=k) (by omega) (.int .u64 sv));have P8:=ah (zH.out.setOther (b':=w.heap.size) (i:=k) (by omega) (.int .u64 sv));have HB2:=ah (dN.out.setCell (p:=⟨w.heap.size,k,none⟩) (Nat.le_refl _) (.int .u64 sv));have HT3:=ah (show aG (wr.setCell ⟨w.heap.size,k,none⟩ (.int .u64 sv)).drew w.heap.size 88 (dw (cur.set k sv)) from HT2.out);have HTB3:=ah (show aG (wr.setCell ⟨w.heap.size,k,none⟩ (.int .u64 sv)).drew (w.heap.size+1) 88 #[.int .u64 b0,.int .u64 b1,.int .u64 b2,.int .u64 b3,.int .u64 b4,.int .u64 b5] from HTB2.out);have HTR3:=ah (show aG (wr.setCell ⟨w.heap.size,k,none⟩ (.int .u64 sv)).drew (w.heap.size+2) 88 #[.int .u64 0,.int .u64 0,.int .u64 0,.int .u64 0,.int .u64 0,.int .u64 0] from P8.out);have HB3:=ah HB2.out.drew;clear HA hx hy hcc hlen;go_wp2_with fail;go_region
   go_wp2_with fail;go_roundw
   case rel=>exact ⟨k+1,_,cv,by omega,by first | rfl | go_num,rfl,uU,HT3,HTB3,HTR3,HB3⟩
   case measure=>simp [intOf];omega
  ·have hkk:k=6:=by omega
   subst hkk;have HE:=ah (FI HA.out rfl);obtain ⟨c0,c1,c2,c3,c4,c5,rfl⟩:=six hlen;have ht:=qw.out;have e0:dw [c0,c1,c2,c3,c4,c5]=#[.int .u64 c0,.int .u64 c1,.int .u64 c2,.int .u64 c3,.int .u64 c4,.int .u64 c5]:=rfl;rw [e0] at ht;have y0:=aG.cell (i:=0) ht rfl;have y1:=aG.cell (i:=1) ht rfl;have y2:=aG.cell (i:=2) ht rfl;have y3:=aG.cell (i:=3) ht rfl;have y4:=aG.cell (i:=4) ht rfl;have y5:=aG.cell (i:=5) ht rfl;have yl:=aG.lt ht;have hr:=zH.out;have r0:=aG.cell (i:=0) hr rfl;have r1:=aG.cell (i:=1) hr rfl;have r2:=aG.cell (i:=2) hr rfl;have r3:=aG.cell (i:=3) hr rfl;have r4:=aG.cell (i:=4) hr rfl;have r5:=aG.cell (i:=5) hr rfl;have rf0:=aG.frozen hr 0;have rf1:=aG.frozen hr 1;have rf2:=aG.frozen hr 2;have rf3:=aG.frozen hr 3;have rf4:=aG.frozen hr 4;have rf5:=aG.frozen hr 5;have gV:=ah ((((((dN.out.setCell (p:=⟨w.heap.size+2,0,none⟩) (by simp) (.int .u64 c0)).setCell (p:=⟨w.heap.size+2,1,none⟩) (by simp) (.int .u64 c1)).setCell (p:=⟨w.heap.size+2,2,none⟩) (by simp) (.int .u64 c2)).setCell (p:=⟨w.heap.size+2,3,none⟩) (by simp) (.int .u64 c3)).setCell (p:=⟨w.heap.size+2,4,none⟩) (by simp) (.int .u64 c4)).setCell (p:=⟨w.heap.size+2,5,none⟩) (by simp) (.int .u64 c5));clear hr ht;go_wp2_with fail;exact bodyPost_ret (v:=.agg #[.int .u64 c0,.int .u64 c1,.int .u64 c2,.int .u64 c3,.int .u64 c4,.int .u64 c5]) (by simp [results,Tryz.results73,go_sem,r0,r1,r2,r3,r4,r5]) rfl ⟨by rw [←HE.out];rfl,gV.out⟩
theorem He {l m:List Int} {k:Nat} (hk:k<l.length) (hlm:l.length=m.length) (hl:Words l) (hm:Words m) (hd:l.drop (k+1)=m.drop (k+1)) (hne:l[k]≠m[k]):bq l<bq m↔l[k]<m[k]:=by
 have e1:l=l.take k++l[k]::l.drop (k+1):=by rw [←List.drop_eq_getElem_cons hk,List.take_append_drop]
 have e2:m=m.take k++m[k]::m.drop (k+1):=by rw [←List.drop_eq_getElem_cons (by omega),List.take_append_drop]
 have h:=less_at (l:=l.take k) (m:=m.take k) (s:=l.drop (k+1)) (x:=l[k]) (y:=m[k]) (by simp [hlm]) (fun x hx=>hl x (List.mem_of_mem_take hx)) (fun x hx=>hm x (List.mem_of_mem_take hx)) hne;rw [←e1,hd,←e2] at h;exact h
theorem LK {l m:List Int} {k:Nat} (hk:k<l.length) (hlm:l.length=m.length) (hd:l.drop (k+1)=m.drop (k+1)) (he:l[k]=m[k]):l.drop k=m.drop k:=by
 rw [List.drop_eq_getElem_cons hk,List.drop_eq_getElem_cons (show k<m.length by omega),he,hd]
theorem Lj (N M:Int) (w:World) (h0:0≤N) (h1:N<bB 6) (h2:0≤M) (h3:M<bB 6) :
  Calls Tryz.prog 72 #[gU N,gU M] w fun e w'=>e=.returned (.bool (decide (N<M)))∧Below w.heap.size w w':=by
 have Bz:=ah (fE 6 N);have Bw:=ah (fE 6 M);have Dz:=ah (iC 6 N h0 h1);have Dy:=ah (iC 6 M h2 h3);obtain ⟨a0,a1,a2,a3,a4,a5,hA⟩:=six (iE 6 N);obtain ⟨b0,b1,b2,b3,b4,b5,hB⟩:=six (iE 6 M);unfold gU;rw [hA] at Bz Dz ⊢;rw [hB] at Bw Dy ⊢;have HD:=ah (show decide (N<M)=decide (bq [a0,a1,a2,a3,a4,a5]<bq [b0,b1,b2,b3,b4,b5]) by rw [Dz.out,Dy.out]);generalize decide (N<M)=RES at *;clear hA hB h0 h1 h2 h3;have qw:=ah (show aG ((w.alloc (.cells #[.int .u64 a0,.int .u64 a1,.int .u64 a2,.int .u64 a3,.int .u64 a4,.int .u64 a5] 88)).alloc (.cells #[.int .u64 b0,.int .u64 b1,.int .u64 b2,.int .u64 b3,.int .u64 b4,.int .u64 b5] 88)) w.heap.size 88 (dw [a0,a1,a2,a3,a4,a5]) from (aG.new w _ _).alloc _)
 have wL:=ah (show aG ((w.alloc (.cells #[.int .u64 a0,.int .u64 a1,.int .u64 a2,.int .u64 a3,.int .u64 a4,.int .u64 a5] 88)).alloc (.cells #[.int .u64 b0,.int .u64 b1,.int .u64 b2,.int .u64 b3,.int .u64 b4,.int .u64 b5] 88)) (w.heap.size+1) 88 (dw [b0,b1,b2,b3,b4,b5]) from by
  have h:=aG.new (w.alloc (.cells #[.int .u64 a0,.int .u64 a1,.int .u64 a2,.int .u64 a3,.int .u64 a4,.int .u64 a5] 88)) #[.int .u64 b0,.int .u64 b1,.int .u64 b2,.int .u64 b3,.int .u64 b4,.int .u64 b5] 88;simp only [World.size_alloc] at h;exact h)
 have HB0:=ah (show Below w.heap.size w ((w.alloc (.cells #[.int .u64 a0,.int .u64 a1,.int .u64 a2,.int .u64 a3,.int .u64 a4,.int .u64 a5] 88)).alloc (.cells #[.int .u64 b0,.int .u64 b1,.int .u64 b2,.int .u64 b3,.int .u64 b4,.int .u64 b5] 88)) from ((Below.refl _ _).alloc (Nat.le_refl _) _).alloc (by simp) _);have eA:dw [a0,a1,a2,a3,a4,a5]=#[.int .u64 a0,.int .u64 a1,.int .u64 a2,.int .u64 a3,.int .u64 a4,.int .u64 a5]:=rfl;have eB:dw [b0,b1,b2,b3,b4,b5]=#[.int .u64 b0,.int .u64 b1,.int .u64 b2,.int .u64 b3,.int .u64 b4,.int .u64 b5]:=rfl;rw [eA,eB];go_enter Tryz.func72,Tryz.ntmps72;go_wp2_with fail;generalize hw0:((w.alloc (.cells #[.int .u64 a0,.int .u64 a1,.int .u64 a2,.int .u64 a3,.int .u64 a4,.int .u64 a5] 88)).alloc (.cells #[.int .u64 b0,.int .u64 b1,.int .u64 b2,.int .u64 b3,.int .u64 b4,.int .u64 b5] 88))=w1 at *;clear hw0;go_loopw [5] (fun i wx=>∃(k:Nat),k≤6∧i=.int .i64 ((k:Int)-1)∧Hid ([a0,a1,a2,a3,a4,a5].drop k=[b0,b1,b2,b3,b4,b5].drop k)∧Hid (aG wx w.heap.size 88 (dw [a0,a1,a2,a3,a4,a5]))∧Hid (aG wx (w.heap.size+1) 88 (dw [b0,b1,b2,b3,b4,b5]))∧Hid (Below w.heap.size w wx)) (fun i _=>(intOf i+1).toNat)
 case atStart=>exact ⟨6,by omega,rfl,ah rfl,qw,wL,HB0⟩
 case round=>
  clear qw wL HB0 eA eB;obtain ⟨k,hk,rfl,HDR,qw,wL,dN⟩:=hrel;by_cases hk0:k=0
  ·subst hk0
   have HE:=ah (show RES=false by
    rw [HD.out];have h:=HDR.out;rw [List.drop_zero,List.drop_zero] at h;rw [h];simp)
   go_wp2_with fail;go_ret;exact ⟨by rw [HE.out]<;>rfl,dN.out⟩
  ·obtain ⟨j,rfl⟩:∃j,k=j+1:=⟨k-1,by omega⟩;have hj6:j<6:=by omega
   have hj6':(j:Int)<6:=by omega
   have e1:(((j+1:Nat):Int)-1)=(j:Int):=by omega
   rw [e1];have z0:wr.cell? ⟨w.heap.size,j,none⟩=some (.int .u64 ([a0,a1,a2,a3,a4,a5][j]'(by simpa using hj6))):=qw.out.cell (jd (i:=j) (by simpa using hj6));have z1:wr.cell? ⟨w.heap.size+1,j,none⟩=some (.int .u64 ([b0,b1,b2,b3,b4,b5][j]'(by simpa using hj6))):=wL.out.cell (jd (i:=j) (by simpa using hj6));have zl:=wL.out.lt;have xS:=ah (He (l:=[a0,a1,a2,a3,a4,a5]) (m:=[b0,b1,b2,b3,b4,b5]) (k:=j) (by simpa using hj6) rfl Bz.out Bw.out HDR.out);have HDM:=ah (LK (l:=[a0,a1,a2,a3,a4,a5]) (m:=[b0,b1,b2,b3,b4,b5]) (k:=j) (by simpa using hj6) rfl HDR.out);generalize [a0,a1,a2,a3,a4,a5][j]'(by simpa using hj6)=x at *;generalize [b0,b1,b2,b3,b4,b5][j]'(by simpa using hj6)=y at *;have z0':wr.drew.cell? ⟨w.heap.size,j,none⟩=_:=z0;have z1':wr.drew.cell? ⟨w.heap.size+1,j,none⟩=_:=z1;have pO:=ah dN.out.drew;have Qk:=ah dN.out.drew.drew;have HTAD:=ah (show aG wr.drew w.heap.size 88 (dw [a0,a1,a2,a3,a4,a5]) from qw.out);have HTBD:=ah (show aG wr.drew (w.heap.size+1) 88 (dw [b0,b1,b2,b3,b4,b5]) from wL.out);by_cases hxy:x=y
   ·have HN:=ah (HDM.out hxy);subst hxy;have a1:IntKind.i64.wrap ((j:Int)-1)=(j:Int)-1:=IntWalk.i64_in _ (by omega);have hne:(x !=x)=false:=by simp
    clear xS HDM;go_wp2_with fail;go_region
    go_wp2_with fail;go_roundw
    case rel=>exact ⟨j,by omega,by first | rfl | go_num,HN,HTAD,HTBD,pO⟩
    case measure=>simp [intOf]
   ·have HV:=ah (show RES=decide (x<y) by
     rw [HD.out];by_cases hlt:x<y
     ·rw [decide_eq_true ((xS.out hxy).2 hlt),decide_eq_true hlt]
     ·rw [decide_eq_false fun h=>hlt ((xS.out hxy).1 h),decide_eq_false hlt])
    have hne:(x !=y)=true:=by simpa using hxy
    go_wp2_with fail;go_region
    go_wp2_with fail;go_region
    go_wp2_with fail;go_ret;exact ⟨by rw [HV.out]<;>rfl,Qk.out⟩
section
variable {P:Program} {ops:Array Oper} {Q:Exit→Act→World→Prop} {md:Region.Mode}
theorem Ic {l:Array Bool} {i:Nat} (h:l.getD i true=false):∃hi:i<l.size,l[i]=false:=by
 by_cases hi:i<l.size
 ·refine ⟨hi,?_⟩;simpa [Array.getD,hi] using h
 ·simp [Array.getD,hi] at h
end
end Go.Proofs.YtopmdeefcjdadaaGreat
