import Derived.Test.YtopmdeefcjdadaaGreatT42M00
import Derived.Test.YtopmdeefcjdadaaGreatT42M17
set_option linter.unusedVariables false
set_option linter.unusedSimpArgs false
set_option maxRecDepth 100000
set_option maxHeartbeats 32000000
namespace Go.Proofs.YtopmdeefcjdadaaGreat
open Go.RowKit
theorem LA (lo:Option Addr) (cap:Nat) (L:List Stp) (kM n d k i:Int) (w:World) (hs:eH w.heap.size w lo L) (hL:L.length≤50) (hall:L.all fV=true) (hc0:0≤kM) (uM:kM≤3600000) (hn0:0≤n) (hnd:n≤d) (EC:d≤1000000000000000) :
  Calls Tryz.prog 139 #[.agg #[.slice lo L.length cap,.int .i64 kM],.agg #[.int .i64 n,.int .i64 d,.int .i64 k,.int .i64 i]] w fun e w'=>e=.returned (.tuple #[.agg #[.int .u64 (hw 0 (iA L (n*kM) d L.length 0 0).1),.int .u64 (hw 1 (iA L (n*kM) d L.length 0 0).1),.int .u64 (hw 2 (iA L (n*kM) d L.length 0 0).1),.int .u64 (hw 3 (iA L (n*kM) d L.length 0 0).1),.int .u64 (hw 4 (iA L (n*kM) d L.length 0 0).1),.int .u64 (hw 5 (iA L (n*kM) d L.length 0 0).1)],.agg #[.int .u64 (hw 0 (iA L (n*kM) d L.length 0 0).2),.int .u64 (hw 1 (iA L (n*kM) d L.length 0 0).2),.int .u64 (hw 2 (iA L (n*kM) d L.length 0 0).2),.int .u64 (hw 3 (iA L (n*kM) d L.length 0 0).2),.int .u64 (hw 4 (iA L (n*kM) d L.length 0 0).2),.int .u64 (hw 5 (iA L (n*kM) d L.length 0 0).2)]])∧Below w.heap.size w w':=by
 have HS:=ah hs;have HA:=ah (fun k (h:k<L.length)=>sQ (List.all_eq_true.1 hall _ (List.getElem_mem h)));have hbig:=lg;have hd0:0≤d:=by omega
 have hd2:d≤9223372036854775807:=by omega
 have hn1:n≤9223372036854775807:=by omega
 have hc1:kM≤9223372036854775807:=by omega
 have hp1:n<bE 6:=by omega
 have hp0:0≤n*kM:=Int.mul_nonneg hn0 hc0;have hp9:n*kM≤1000000000000000*3600000:=Int.le_trans (Int.mul_le_mul_of_nonneg_right (show n≤1000000000000000 by omega) hc0) (Int.mul_le_mul_of_nonneg_left uM (by omega));have hp2:n*kM<bE 6:=by omega
 generalize hres:iA L (n*kM) d L.length 0 0=RES at *;have HRES:=ah hres.symm;clear hres
 have HM:=ah (fun (b:Int) (h0:0≤b) (h1:b≤400000000)=>(show 0≤d*b∧d*b<bE 6 from ⟨Int.mul_nonneg hd0 h0,by
  have h2:d*b≤1000000000000000*400000000:=Int.le_trans (Int.mul_le_mul_of_nonneg_right EC h0) (Int.mul_le_mul_of_nonneg_left h1 (by omega));omega⟩))
 clear hs hall;have HT0:=ah (show aH ((((w.alloc (.cells #[.slice lo L.length cap,.int .i64 kM] 153)).alloc (.cells #[.int .i64 n,.int .i64 d,.int .i64 k,.int .i64 i] 123)).alloc (.cells #[.int .u64 0,.int .u64 0,.int .u64 0,.int .u64 0,.int .u64 0,.int .u64 0] 88)).alloc (.cells #[.int .u64 0,.int .u64 0,.int .u64 0,.int .u64 0,.int .u64 0,.int .u64 0] 88)) w.heap.size 153 #[.slice lo L.length cap,.int .i64 kM] from (((aH.new w #[.slice lo L.length cap,.int .i64 kM] 153).alloc _).alloc _).alloc _)
 have HT1:=ah (show aH ((((w.alloc (.cells #[.slice lo L.length cap,.int .i64 kM] 153)).alloc (.cells #[.int .i64 n,.int .i64 d,.int .i64 k,.int .i64 i] 123)).alloc (.cells #[.int .u64 0,.int .u64 0,.int .u64 0,.int .u64 0,.int .u64 0,.int .u64 0] 88)).alloc (.cells #[.int .u64 0,.int .u64 0,.int .u64 0,.int .u64 0,.int .u64 0,.int .u64 0] 88)) (w.heap.size+1) 123 #[.int .i64 n,.int .i64 d,.int .i64 k,.int .i64 i] from by
  have h:=((aH.new (w.alloc (.cells #[.slice lo L.length cap,.int .i64 kM] 153)) #[.int .i64 n,.int .i64 d,.int .i64 k,.int .i64 i] 123).alloc (.cells #[.int .u64 0,.int .u64 0,.int .u64 0,.int .u64 0,.int .u64 0,.int .u64 0] 88)).alloc (.cells #[.int .u64 0,.int .u64 0,.int .u64 0,.int .u64 0,.int .u64 0,.int .u64 0] 88);simpa only [World.size_alloc] using h)
 have HT2:=ah (show aH ((((w.alloc (.cells #[.slice lo L.length cap,.int .i64 kM] 153)).alloc (.cells #[.int .i64 n,.int .i64 d,.int .i64 k,.int .i64 i] 123)).alloc (.cells #[.int .u64 0,.int .u64 0,.int .u64 0,.int .u64 0,.int .u64 0,.int .u64 0] 88)).alloc (.cells #[.int .u64 0,.int .u64 0,.int .u64 0,.int .u64 0,.int .u64 0,.int .u64 0] 88)) (w.heap.size+2) 88 #[.int .u64 0,.int .u64 0,.int .u64 0,.int .u64 0,.int .u64 0,.int .u64 0] from by
  have h:=(aH.new ((w.alloc (.cells #[.slice lo L.length cap,.int .i64 kM] 153)).alloc (.cells #[.int .i64 n,.int .i64 d,.int .i64 k,.int .i64 i] 123)) #[.int .u64 0,.int .u64 0,.int .u64 0,.int .u64 0,.int .u64 0,.int .u64 0] 88).alloc (.cells #[.int .u64 0,.int .u64 0,.int .u64 0,.int .u64 0,.int .u64 0,.int .u64 0] 88);simpa only [World.size_alloc] using h)
 have HT3:=ah (show aH ((((w.alloc (.cells #[.slice lo L.length cap,.int .i64 kM] 153)).alloc (.cells #[.int .i64 n,.int .i64 d,.int .i64 k,.int .i64 i] 123)).alloc (.cells #[.int .u64 0,.int .u64 0,.int .u64 0,.int .u64 0,.int .u64 0,.int .u64 0] 88)).alloc (.cells #[.int .u64 0,.int .u64 0,.int .u64 0,.int .u64 0,.int .u64 0,.int .u64 0] 88)) (w.heap.size+3) 88 #[.int .u64 0,.int .u64 0,.int .u64 0,.int .u64 0,.int .u64 0,.int .u64 0] from by
  have h:=aH.new (((w.alloc (.cells #[.slice lo L.length cap,.int .i64 kM] 153)).alloc (.cells #[.int .i64 n,.int .i64 d,.int .i64 k,.int .i64 i] 123)).alloc (.cells #[.int .u64 0,.int .u64 0,.int .u64 0,.int .u64 0,.int .u64 0,.int .u64 0] 88)) #[.int .u64 0,.int .u64 0,.int .u64 0,.int .u64 0,.int .u64 0,.int .u64 0] 88;simpa only [World.size_alloc] using h)
 have HB:=ah (show Below w.heap.size w ((((w.alloc (.cells #[.slice lo L.length cap,.int .i64 kM] 153)).alloc (.cells #[.int .i64 n,.int .i64 d,.int .i64 k,.int .i64 i] 123)).alloc (.cells #[.int .u64 0,.int .u64 0,.int .u64 0,.int .u64 0,.int .u64 0,.int .u64 0] 88)).alloc (.cells #[.int .u64 0,.int .u64 0,.int .u64 0,.int .u64 0,.int .u64 0,.int .u64 0] 88)) from ((((Below.refl _ _).alloc (Nat.le_refl _) _).alloc (by simp) _).alloc (by simp;omega) _).alloc (by simp;omega) _);have HZ:=ah (show w.heap.size+4=(((((w.alloc (.cells #[.slice lo L.length cap,.int .i64 kM] 153)).alloc (.cells #[.int .i64 n,.int .i64 d,.int .i64 k,.int .i64 i] 123)).alloc (.cells #[.int .u64 0,.int .u64 0,.int .u64 0,.int .u64 0,.int .u64 0,.int .u64 0] 88)).alloc (.cells #[.int .u64 0,.int .u64 0,.int .u64 0,.int .u64 0,.int .u64 0,.int .u64 0] 88))).heap.size by simp);go_enter Tryz.func139,Tryz.ntmps139;go_upto_region 1 with fail;generalize hw1:((((w.alloc (.cells #[.slice lo L.length cap,.int .i64 kM] 153)).alloc (.cells #[.int .i64 n,.int .i64 d,.int .i64 k,.int .i64 i] 123)).alloc (.cells #[.int .u64 0,.int .u64 0,.int .u64 0,.int .u64 0,.int .u64 0,.int .u64 0] 88)).alloc (.cells #[.int .u64 0,.int .u64 0,.int .u64 0,.int .u64 0,.int .u64 0,.int .u64 0] 88))=w1 at *;clear hw1;refine aX (by kernel_rfl) 8 (by simp) (by kernel_rfl) (by kernel_rfl) (by kernel_rfl) (by kernel_rfl) (fun jx vx wx=>match jx with | 0=>vx=(.pointer (some ⟨w.heap.size+1,0,none⟩)) | 1=>vx=(.int .i64 n) | 2=>vx=(.agg #[.int .u64 (hw 0 n),.int .u64 (hw 1 n),.int .u64 (hw 2 n),.int .u64 (hw 3 n),.int .u64 (hw 4 n),.int .u64 (hw 5 n)]) | 3=>vx=(.pointer (some ⟨w.heap.size,1,none⟩)) | 4=>vx=(.int .i64 kM) | 5=>fA w1.heap.size vx (.int .i64 kM) wx | 6=>vx=(.agg #[.int .u64 (hw 0 (n*kM)),.int .u64 (hw 1 (n*kM)),.int .u64 (hw 2 (n*kM)),.int .u64 (hw 3 (n*kM)),.int .u64 (hw 4 (n*kM)),.int .u64 (hw 5 (n*kM))]) | 7=>fF w1.heap.size 88 #[.int .u64 0,.int .u64 0,.int .u64 0,.int .u64 0,.int .u64 0,.int .u64 0] vx wx | _=>True) (fun W=>Below w1.heap.size w1 W) (fun wx wy=>Below wx.heap.size wx wy) (Below.refl _ _).drew ?_ ?_ ?_ ?_
 ·intro jx vx wx wy h g
  match jx,h with
  | 0,h | 1,h | 2,h | 3,h | 4,h | 6,h=>exact h
  | 5,h=>exact fA.up h g
  | 7,h=>exact fF.up h g
  | jx+8,h=>exact trivial
 ·intro jx ox dx hj ho hd;exact bO (by kernel_rfl) hj ho hd
 ·intro ix ox ax W hi aC hsh hW hpre;have hsz:w1.heap.size≤W.heap.size:=hW.size;have GA:∀ob,Below W.heap.size W (W.alloc ob):=fun ob=>(Below.refl _ _).alloc (Nat.le_refl _) ob;have WA:∀ob,Below w1.heap.size w1 (W.alloc ob):=fun ob=>hW.alloc hsz ob;have t2:ax.tmps[2]?.getD undef=(.pointer (some ⟨w.heap.size,0,none⟩)):=gT (hsh.2.2 2 (aM (by kernel_rfl)));have t3:ax.tmps[3]?.getD undef=(.pointer (some ⟨w.heap.size+1,0,none⟩)):=gT (hsh.2.2 3 (aM (by kernel_rfl)));have q0:W.cell? ⟨w.heap.size+1,0,none⟩=some (.int .i64 n):=(HT1.out.below hW).cell (i:=0) rfl;have q1:W.cell? ⟨w.heap.size,1,none⟩=some (.int .i64 kM):=(HT0.out.below hW).cell (i:=1) rfl;clear hsh
  match ix,hi,aC with
  | 0,_,aC=>
   cases aC;exact au (w':=W) (by simp [execOp,Act.eval,t3,go_sem]) (aS hW)
  | 1,_,aC=>
   cases aC;have f0:=gT (hpre ⟨0,.data⟩ (by simp) (by rfl) _ _ rfl rfl);exact au (w':=W) (by simp [execOp,Act.eval,q0,f0,go_sem]) (aS hW)
  | 2,_,aC=>
   cases aC;have f1:=gT (hpre ⟨1,.data⟩ (by simp) (by rfl) _ _ rfl rfl);refine aG (by simp [execOp,Act.eval,f1,go_sem]) ((xJ n hn0 hn1 W).mono ?_);rintro ex wy ⟨rfl,hb⟩;exact ⟨_,rfl,_,rfl,rfl,hW.trans (hb.mono hsz),hb⟩
  | 3,_,aC=>
   cases aC;exact au (w':=W) (by simp [execOp,Act.eval,t2,go_sem]) (aS hW)
  | 4,_,aC=>
   cases aC;have f3:=gT (hpre ⟨3,.data⟩ (by simp) (by rfl) _ _ rfl rfl);exact au (w':=W) (by simp [execOp,Act.eval,q1,f3,go_sem]) (aS hW)
  | 5,_,aC=>
   cases aC;have f4:=gT (hpre ⟨4,.data⟩ (by simp) (by rfl) _ _ rfl rfl);exact au (v:=.slice (some ⟨W.heap.size,0,none⟩) 1 1) (w':=W.alloc (.cells #[.int .i64 kM] 3)) (by simp [execOp,Act.eval,f4,go_sem]) ⟨_,rfl,fA.new _ _ hsz,WA _,GA _⟩
  | 6,_,aC=>
   cases aC;have f2:=gT (hpre ⟨2,.data⟩ (by simp) (by rfl) _ _ rfl rfl);have p5:=hpre ⟨5,.data⟩ (by simp) (by rfl) _ _ rfl rfl;obtain ⟨b5,e5,hb5,hl5,D5⟩:=p5;have f5:=(Array.getD_eq_getD_getElem? ..).symm.trans e5;refine aG (by simp [execOp,Act.eval,f2,f5,go_sem]) ((fJ n kM b5 W hn0 hc0 hc1 hp1 hp2 hl5 D5).mono ?_);rintro ex wy ⟨rfl,hb⟩;exact ⟨_,rfl,_,rfl,rfl,hW.trans (hb.mono hsz),hb⟩
  | 7,_,aC=>
   cases aC;exact au (v:=.pointer (some ⟨W.heap.size,0,none⟩)) (w':=W.alloc (.cells #[.int .u64 0,.int .u64 0,.int .u64 0,.int .u64 0,.int .u64 0,.int .u64 0] 88)) (by simp [execOp,Act.eval,mP,go_sem]) ⟨_,rfl,fF.new _ _ hsz,WA _,GA _⟩
  | ix+8,hi,_=>exact absurd hi (by omega)
 ·intro ax W hsh hW hφ;have e0:=hφ 0 _ _ (by omega) rfl rfl;have e1:=hφ 1 _ _ (by omega) rfl rfl;have e2:=hφ 2 _ _ (by omega) rfl rfl;have e3:=hφ 3 _ _ (by omega) rfl rfl;have e4:=hφ 4 _ _ (by omega) rfl rfl;obtain ⟨b5,e5,hb5,hl5,D5⟩:=hφ 5 _ _ (by omega) rfl rfl;have e6:=hφ 6 _ _ (by omega) rfl rfl;obtain ⟨b7,e7,xD,Qy⟩:=hφ 7 _ _ (by omega) rfl rfl;rw [bf hsh [(13,_),(14,_),(15,_),(16,_),(17,_),(18,_),(19,_),(6,_)] [13,14,15,16,17,18,19,6] rfl (by kernel_rfl) ⟨e0,e1,e2,e3,e4,e5,e6,e7,trivial⟩];clear hφ hsh e0 e1 e2 e3 e4 e5 e6 e7;clear D5;simp only [cB,List.foldl_cons,List.foldl_nil,List.drop_succ_cons,List.drop_zero,Act.put,List.setIfInBounds_toArray,List.set_cons_succ,List.set_cons_zero];refine aZ W rfl _ _ rfl b7 rfl rfl Qy ?_;intro wS tS gS;simp only [Act.put]
  have HKS:=ah (show Hq w lo cap L kM n d k i b7 (n*kM) wS from by
   have hz:=HZ.out;exact ⟨⟨(HT0.out.below hW).fE gS (by omega),(HT1.out.below hW).fE gS (by omega)⟩,⟨(HT2.out.below hW).fE gS (by omega),(HT3.out.below hW).fE gS (by omega)⟩,tS,by omega,aY (HB.out.trans (hW.mono (by omega))) gS (by have:=hW.size;omega) (by omega)⟩)
  clear hW tS gS Qy HT0 HT1 HT2 HT3 HB HZ;have hpp0:=hp0;have hpp1:=hp2;generalize hp:n*kM=p at *;have HPE:=ah hp;clear hp;obtain ⟨pb,rfl⟩:∃pb,pb=b7:=⟨_,rfl⟩;obtain ⟨q0,q1⟩:=HKS.out.sc;have qz:=HKS.out.size;go_wp2_with fail;clear q0 q1;go_loopw [23,7] (fun ix bx wx=>∃(j:Nat) (bg:Int),j≤L.length∧ix=.int .i64 j∧bx=.int .i64 bg∧0≤bg∧bg≤7200000*j∧Hid (RES=iA L p d (L.length-j) j bg)∧Hid (Hq w lo cap L kM n d k i pb p wx)) (fun ix _ _=>L.length-(intOf ix).toNat)
  case atStart=>exact ⟨0,0,Nat.zero_le _,rfl,rfl,by omega,by omega,ah (by rw [Nat.sub_zero];exact HRES.out),HKS⟩
  case round=>
   clear HKS;obtain ⟨j,bg,hj,rfl,rfl,g0,g1,HR,HK⟩:=hrel;have yP:=HK.out.size;by_cases hlt:j<L.length
   ·obtain ⟨sp,off,hlo,hsb,hcs⟩:=HS.out (by intro h;subst h;simp at hlt);subst hlo;have Gc:(j+1) % L.length<L.length:=Nat.mod_lt _ (by omega);obtain ⟨e0,e1,e2⟩:=hcs j hlt;have HYC:=ah (hcs _ Gc);have d0:=(HK.out.bel.cell (p:=⟨sp,off+j*3,none⟩) hsb).trans e0;have d1:=(HK.out.bel.cell (p:=⟨sp,off+j*3+1,none⟩) hsb).trans e1;have d2:=(HK.out.bel.cell (p:=⟨sp,off+j*3+2,none⟩) hsb).trans e2;have hsr:sp<wr.heap.size:=Nat.lt_of_lt_of_le hsb HK.out.bel.size;obtain ⟨⟨hlv0,hlv1⟩,⟨hh0,hh1⟩,hf0,hf1⟩:=HA.out j hlt;obtain ⟨⟨hlw0,hlw1⟩,_,_,_⟩:=HA.out _ Gc;have hr1:RES=iA L p d (L.length-(j+1)+1) j bg:=by rw [show L.length-(j+1)+1=L.length-j by omega];exact HR.out
    have JZ:=ah (fun h=>hr1.trans (BJ (L:=L) (p:=p) (d:=d) (c:=L.length-(j+1)) (j:=j) (b:=bg) h));have EH:=ah (fun h h2=>hr1.trans (Ki (L:=L) (p:=p) (d:=d) (c:=L.length-(j+1)) (j:=j) (b:=bg) h h2));have Hy:=ah (fun h h2=>hr1.trans (ET (L:=L) (p:=p) (d:=d) (c:=L.length-(j+1)) (j:=j) (b:=bg) h h2));rw [oQ hlt] at JZ EH Hy;rw [oQ Gc] at EH;generalize Qv:(j+1) % L.length=nj at *;have HNJ:=ah Qv;clear Qv hcs e0 e1 e2 hr1 HR;generalize Hl:L[j]=x9 at *;clear Hl;generalize Hg:L[nj]=y9 at *;clear Hg;obtain ⟨lv,hold,bG⟩:=x9;obtain ⟨kT,Co,Cu⟩:=y9;simp only at *;have hj50:j≤50:=by omega
    have aw:IntKind.i64.wrap (bg+hold)=bg+hold:=IntWalk.i64_in _ (by omega);have hb0:0≤bg+hold:=by omega
    have hb4:bg+hold≤400000000:=by omega
    have MX:bg+hold≤9223372036854775807:=by omega
    have QF:bg+hold+bG≤400000000:=by omega
    have hg7:bg+hold+bG≤7200000*((j:Int)+1):=by omega
    have iB:=ah (aH.new wr #[.int .i64 lv,.int .i64 hold,.int .i64 bG] 109);have JW:=ah (HK.out.below ((Below.refl wr.heap.size wr).alloc (Nat.le_refl _) (.cells #[.int .i64 lv,.int .i64 hold,.int .i64 bG] 109)));clear HK;go_upto_region 7 with fail;clear d0 d1 d2;generalize hwB:wr.alloc (.cells #[.int .i64 lv,.int .i64 hold,.int .i64 bG] 109)=wB at *;clear hwB;obtain ⟨sb,Qq⟩:∃sb,sb=wr.heap.size:=⟨_,rfl⟩;rw [←Qq] at iB ⊢;have hsb4:w.heap.size+4≤sb∧pb<sb∧sb<wB.heap.size:=⟨by omega,by omega,iB.out.lt⟩;clear Qq aw;generalize hb1:bg+hold=b1 at *;clear hb1;have hbf0:0≤b1+bG:=by omega
    have hbf9:b1+bG≤9223372036854775807:=by omega
    have hf4:bG≤400000000:=by omega
    have hf9:bG≤9223372036854775807:=by omega
    have aw2:IntKind.i64.wrap (b1+bG)=b1+bG:=IntWalk.i64_in _ (by omega);have hdP:d<bE 6:=by omega
    refine aX (by kernel_rfl) 8 (by simp) (by kernel_rfl) (by kernel_rfl) (by kernel_rfl) (by kernel_rfl) (fun jx vx wx=>match jx with | 0=>vx=(.agg #[.int .u64 (hw 0 p),.int .u64 (hw 1 p),.int .u64 (hw 2 p),.int .u64 (hw 3 p),.int .u64 (hw 4 p),.int .u64 (hw 5 p)]) | 1=>vx=(.pointer (some ⟨w.heap.size+1,1,none⟩)) | 2=>vx=(.int .i64 d) | 3=>vx=(.agg #[.int .u64 (hw 0 d),.int .u64 (hw 1 d),.int .u64 (hw 2 d),.int .u64 (hw 3 d),.int .u64 (hw 4 d),.int .u64 (hw 5 d)]) | 4=>vx=(.int .i64 b1) | 5=>fA wB.heap.size vx (.int .i64 b1) wx | 6=>vx=(.agg #[.int .u64 (hw 0 (d*b1)),.int .u64 (hw 1 (d*b1)),.int .u64 (hw 2 (d*b1)),.int .u64 (hw 3 (d*b1)),.int .u64 (hw 4 (d*b1)),.int .u64 (hw 5 (d*b1))]) | 7=>vx=(.bool (decide (p<d*b1))) | _=>True) (fun W=>Below wB.heap.size wB W) (fun wx wy=>Below wx.heap.size wx wy) (Below.refl _ _).drew ?_ ?_ ?_ ?_
    ·intro jx vx wx wy h g
     match jx,h with
     | 0,h | 1,h | 2,h | 3,h | 4,h | 6,h | 7,h=>exact h
     | 5,h=>exact fA.up h g
     | jx+8,h=>exact trivial
    ·intro jx ox dx hj ho hd;exact bO (by kernel_rfl) hj ho hd
    ·intro ix ox ax W hi aC hsh hW hpre;have hsz:wB.heap.size≤W.heap.size:=hW.size;have GA:∀ob,Below W.heap.size W (W.alloc ob):=fun ob=>(Below.refl _ _).alloc (Nat.le_refl _) ob;have WA:∀ob,Below wB.heap.size wB (W.alloc ob):=fun ob=>hW.alloc hsz ob;have t3:ax.tmps[3]?.getD undef=(.pointer (some ⟨w.heap.size+1,0,none⟩)):=gT (hsh.2.2 3 (aM (by kernel_rfl)));have t6:ax.tmps[6]?.getD undef=(.pointer (some ⟨pb,0,none⟩)):=gT (hsh.2.2 6 (aM (by kernel_rfl)));have t7:ax.tmps[7]?.getD undef=(.int .i64 b1):=gT (hsh.2.2 7 (aM (by kernel_rfl)));obtain ⟨q0,q1⟩:=(JW.out.below hW).pc;obtain ⟨h0,h1,h2,h3,h4,h5⟩:=bJ (JW.out.below hW).2.2.1;clear hsh
     match ix,hi,aC with
     | 0,_,aC=>
      cases aC;exact au (w':=W) (by simp [execOp,Act.eval,t6,h0,h1,h2,h3,h4,h5,go_sem]) (aS hW)
     | 1,_,aC=>
      cases aC;exact au (w':=W) (by simp [execOp,Act.eval,t3,go_sem]) (aS hW)
     | 2,_,aC=>
      cases aC;have f1:=gT (hpre ⟨1,.data⟩ (by simp) (by rfl) _ _ rfl rfl);exact au (w':=W) (by simp [execOp,Act.eval,q1,f1,go_sem]) (aS hW)
     | 3,_,aC=>
      cases aC;have f2:=gT (hpre ⟨2,.data⟩ (by simp) (by rfl) _ _ rfl rfl);refine aG (by simp [execOp,Act.eval,f2,go_sem]) ((xJ d hd0 hd2 W).mono ?_);rintro ex wy ⟨rfl,hb⟩;exact ⟨_,rfl,_,rfl,rfl,hW.trans (hb.mono hsz),hb⟩
     | 4,_,aC=>
      cases aC;exact au (w':=W) (by simp [execOp,Act.eval,t7,go_sem]) (aS hW)
     | 5,_,aC=>
      cases aC;have f4:=gT (hpre ⟨4,.data⟩ (by simp) (by rfl) _ _ rfl rfl);exact au (v:=.slice (some ⟨W.heap.size,0,none⟩) 1 1) (w':=W.alloc (.cells #[.int .i64 b1] 3)) (by simp [execOp,Act.eval,f4,go_sem]) ⟨_,rfl,fA.new _ _ hsz,WA _,GA _⟩
     | 6,_,aC=>
      cases aC;have f3:=gT (hpre ⟨3,.data⟩ (by simp) (by rfl) _ _ rfl rfl);have p5:=hpre ⟨5,.data⟩ (by simp) (by rfl) _ _ rfl rfl;obtain ⟨b5,e5,hb5,hl5,D5⟩:=p5;have f5:=(Array.getD_eq_getD_getElem? ..).symm.trans e5;refine aG (by simp [execOp,Act.eval,f3,f5,go_sem]) ((fJ d b1 b5 W hd0 hb0 MX hdP (HM.out b1 hb0 hb4).2 hl5 D5).mono ?_);rintro ex wy ⟨rfl,hb⟩;exact ⟨_,rfl,_,rfl,rfl,hW.trans (hb.mono hsz),hb⟩
     | 7,_,aC=>
      cases aC;have f0:=gT (hpre ⟨0,.data⟩ (by simp) (by rfl) _ _ rfl rfl);have f6:=gT (hpre ⟨6,.data⟩ (by simp) (by rfl) _ _ rfl rfl);refine aG (by simp [execOp,Act.eval,f0,f6,go_sem]) ((KL p (d*b1) hpp0 hpp1 (HM.out b1 hb0 hb4).1 (HM.out b1 hb0 hb4).2 W).mono ?_);rintro ex wy ⟨rfl,hb⟩;exact ⟨_,rfl,_,rfl,rfl,hW.trans (hb.mono hsz),hb⟩
     | ix+8,hi,_=>exact absurd hi (by omega)
    ·intro ax wC hsh hW hφ;have e0:=hφ 0 _ _ (by omega) rfl rfl;have e1:=hφ 1 _ _ (by omega) rfl rfl;have e2:=hφ 2 _ _ (by omega) rfl rfl;have e3:=hφ 3 _ _ (by omega) rfl rfl;have e4:=hφ 4 _ _ (by omega) rfl rfl;obtain ⟨b5,e5,hb5,hl5,D5⟩:=hφ 5 _ _ (by omega) rfl rfl;have e6:=hφ 6 _ _ (by omega) rfl rfl;have e7:=hφ 7 _ _ (by omega) rfl rfl;rw [bf hsh [(32,_),(33,_),(34,_),(35,_),(36,_),(37,_),(38,_),(39,_)] [32,33,34,35,36,37,38,39] rfl (by kernel_rfl) ⟨e0,e1,e2,e3,e4,e5,e6,e7,trivial⟩];clear hφ hsh e0 e1 e2 e3 e4 e5 e6 e7;clear D5;simp only [cB,List.foldl_cons,List.foldl_nil,List.drop_succ_cons,List.drop_zero,Act.put,List.setIfInBounds_toArray,List.set_cons_succ,List.set_cons_zero];have HKC:=ah (JW.out.below hW);have G5:=ah (iB.out.below hW);clear hW JW iB;by_cases hp1':p<d*b1
     ·have HV:=ah (JZ.out hp1');have hde:decide (p<d*b1)=true:=by simpa using hp1'
      obtain ⟨s0,s1,s2⟩:=oP G5.out;have hsl:=G5.out.lt;clear JZ EH Hy;go_wp2_with fail;refine (xJ lv (by omega) (by omega) _).mono ?_;rintro e wa ⟨rfl,hba⟩;have sO:=ah (HKC.out.below hba);clear hba;go_wp2_with fail;refine (xJ 65535 (by omega) (by omega) _).mono ?_;rintro e wb ⟨rfl,hbb⟩;have NZ:=ah (sO.out.below hbb);clear hbb;have r2:=NZ.out.2.1.1;have r3:=NZ.out.2.1.2;have x0:wb.cell? ⟨w.heap.size+1+1,0,none⟩=_:=r2.cell (i:=0) rfl;have xf0:wb.frozen? ⟨w.heap.size+1+1,0,none⟩=_:=r2.frozen 0;have y0:wb.cell? ⟨w.heap.size+1+1+1,0,none⟩=_:=r3.cell (i:=0) rfl;have yf0:wb.frozen? ⟨w.heap.size+1+1+1,0,none⟩=_:=r3.frozen 0;have x1:wb.cell? ⟨w.heap.size+1+1,1,none⟩=_:=r2.cell (i:=1) rfl;have xf1:wb.frozen? ⟨w.heap.size+1+1,1,none⟩=_:=r2.frozen 1;have y1:wb.cell? ⟨w.heap.size+1+1+1,1,none⟩=_:=r3.cell (i:=1) rfl;have yf1:wb.frozen? ⟨w.heap.size+1+1+1,1,none⟩=_:=r3.frozen 1;have x2:wb.cell? ⟨w.heap.size+1+1,2,none⟩=_:=r2.cell (i:=2) rfl;have xf2:wb.frozen? ⟨w.heap.size+1+1,2,none⟩=_:=r2.frozen 2;have y2:wb.cell? ⟨w.heap.size+1+1+1,2,none⟩=_:=r3.cell (i:=2) rfl;have yf2:wb.frozen? ⟨w.heap.size+1+1+1,2,none⟩=_:=r3.frozen 2;have x3:wb.cell? ⟨w.heap.size+1+1,3,none⟩=_:=r2.cell (i:=3) rfl;have xf3:wb.frozen? ⟨w.heap.size+1+1,3,none⟩=_:=r2.frozen 3;have y3:wb.cell? ⟨w.heap.size+1+1+1,3,none⟩=_:=r3.cell (i:=3) rfl;have yf3:wb.frozen? ⟨w.heap.size+1+1+1,3,none⟩=_:=r3.frozen 3;have x4:wb.cell? ⟨w.heap.size+1+1,4,none⟩=_:=r2.cell (i:=4) rfl;have xf4:wb.frozen? ⟨w.heap.size+1+1,4,none⟩=_:=r2.frozen 4;have y4:wb.cell? ⟨w.heap.size+1+1+1,4,none⟩=_:=r3.cell (i:=4) rfl;have yf4:wb.frozen? ⟨w.heap.size+1+1+1,4,none⟩=_:=r3.frozen 4;have x5:wb.cell? ⟨w.heap.size+1+1,5,none⟩=_:=r2.cell (i:=5) rfl;have xf5:wb.frozen? ⟨w.heap.size+1+1,5,none⟩=_:=r2.frozen 5;have y5:wb.cell? ⟨w.heap.size+1+1+1,5,none⟩=_:=r3.cell (i:=5) rfl;have yf5:wb.frozen? ⟨w.heap.size+1+1+1,5,none⟩=_:=r3.frozen 5;have gu:=ah (fun (u0 u1 u2 u3 u4 u5 v0 v1 v2 v3 v4 v5:Value)=>((((((((((((NZ.out.bel.setCell (p:=⟨w.heap.size+1+1,0,none⟩) (by simp;omega) u0).setCell (p:=⟨w.heap.size+1+1,1,none⟩) (by simp;omega) u1).setCell (p:=⟨w.heap.size+1+1,2,none⟩) (by simp;omega) u2).setCell (p:=⟨w.heap.size+1+1,3,none⟩) (by simp;omega) u3).setCell (p:=⟨w.heap.size+1+1,4,none⟩) (by simp;omega) u4).setCell (p:=⟨w.heap.size+1+1,5,none⟩) (by simp;omega) u5).setCell (p:=⟨w.heap.size+1+1+1,0,none⟩) (by simp;omega) v0).setCell (p:=⟨w.heap.size+1+1+1,1,none⟩) (by simp;omega) v1).setCell (p:=⟨w.heap.size+1+1+1,2,none⟩) (by simp;omega) v2).setCell (p:=⟨w.heap.size+1+1+1,3,none⟩) (by simp;omega) v3).setCell (p:=⟨w.heap.size+1+1+1,4,none⟩) (by simp;omega) v4).setCell (p:=⟨w.heap.size+1+1+1,5,none⟩) (by simp;omega) v5));clear r2 r3;go_wp2_with fail;exact bodyPost_ret (v:=.tuple #[.agg #[.int .u64 (hw 0 lv),.int .u64 (hw 1 lv),.int .u64 (hw 2 lv),.int .u64 (hw 3 lv),.int .u64 (hw 4 lv),.int .u64 (hw 5 lv)],.agg #[.int .u64 (hw 0 65535),.int .u64 (hw 1 65535),.int .u64 (hw 2 65535),.int .u64 (hw 3 65535),.int .u64 (hw 4 65535),.int .u64 (hw 5 65535)]]) (by simp [results,Tryz.results139,go_sem,x0,y0,x1,y1,x2,y2,x3,y3,x4,y4,x5,y5]) rfl ⟨by rw [HV.out],gu.out _ _ _ _ _ _ _ _ _ _ _ _⟩
     ·have hde:decide (p<d*b1)=false:=by simpa using hp1'
      clear JZ;go_upto_region 9 with fail;refine aX (by kernel_rfl) 11 (by simp) (by kernel_rfl) (by kernel_rfl) (by kernel_rfl) (by kernel_rfl) (fun jx vx wx=>match jx with | 0=>vx=(.agg #[.int .u64 (hw 0 p),.int .u64 (hw 1 p),.int .u64 (hw 2 p),.int .u64 (hw 3 p),.int .u64 (hw 4 p),.int .u64 (hw 5 p)]) | 1=>vx=(.pointer (some ⟨w.heap.size+1,1,none⟩)) | 2=>vx=(.int .i64 d) | 3=>vx=(.agg #[.int .u64 (hw 0 d),.int .u64 (hw 1 d),.int .u64 (hw 2 d),.int .u64 (hw 3 d),.int .u64 (hw 4 d),.int .u64 (hw 5 d)]) | 4=>vx=(.int .i64 b1) | 5=>vx=(.pointer (some ⟨sb,2,none⟩)) | 6=>vx=(.int .i64 bG) | 7=>vx=(.int .i64 (b1+bG)) | 8=>fA wC.heap.size vx (.int .i64 (b1+bG)) wx | 9=>vx=(.agg #[.int .u64 (hw 0 (d*(b1+bG))),.int .u64 (hw 1 (d*(b1+bG))),.int .u64 (hw 2 (d*(b1+bG))),.int .u64 (hw 3 (d*(b1+bG))),.int .u64 (hw 4 (d*(b1+bG))),.int .u64 (hw 5 (d*(b1+bG)))]) | 10=>vx=(.bool (decide (p<d*(b1+bG)))) | _=>True) (fun W=>Below wC.heap.size wC W) (fun wx wy=>Below wx.heap.size wx wy) (Below.refl _ _).drew ?_ ?_ ?_ ?_
      ·intro jx vx wx wy h g
       match jx,h with
       | 0,h | 1,h | 2,h | 3,h | 4,h | 5,h | 6,h | 7,h | 9,h | 10,h=>exact h
       | 8,h=>exact fA.up h g
       | jx+11,h=>exact trivial
      ·intro jx ox dx hj ho hd;exact bO (by kernel_rfl) hj ho hd
      ·intro ix ox ax W hi aC hsh hW hpre;have hsz:wC.heap.size≤W.heap.size:=hW.size;have GA:∀ob,Below W.heap.size W (W.alloc ob):=fun ob=>(Below.refl _ _).alloc (Nat.le_refl _) ob;have WA:∀ob,Below wC.heap.size wC (W.alloc ob):=fun ob=>hW.alloc hsz ob;have t3:ax.tmps[3]?.getD undef=(.pointer (some ⟨w.heap.size+1,0,none⟩)):=gT (hsh.2.2 3 (aM (by kernel_rfl)));have t6:ax.tmps[6]?.getD undef=(.pointer (some ⟨pb,0,none⟩)):=gT (hsh.2.2 6 (aM (by kernel_rfl)));have t7:ax.tmps[7]?.getD undef=(.int .i64 b1):=gT (hsh.2.2 7 (aM (by kernel_rfl)));have t9:ax.tmps[9]?.getD undef=(.pointer (some ⟨sb,0,none⟩)):=gT (hsh.2.2 9 (aM (by kernel_rfl)));obtain ⟨q0,q1⟩:=(HKC.out.below hW).pc;obtain ⟨h0,h1,h2,h3,h4,h5⟩:=bJ (HKC.out.below hW).2.2.1;obtain ⟨s0,s1,s2⟩:=oP (G5.out.below hW);clear hsh
       match ix,hi,aC with
       | 0,_,aC=>
        cases aC;exact au (w':=W) (by simp [execOp,Act.eval,t6,h0,h1,h2,h3,h4,h5,go_sem]) (aS hW)
       | 1,_,aC=>
        cases aC;exact au (w':=W) (by simp [execOp,Act.eval,t3,go_sem]) (aS hW)
       | 2,_,aC=>
        cases aC;have f1:=gT (hpre ⟨1,.data⟩ (by simp) (by rfl) _ _ rfl rfl);exact au (w':=W) (by simp [execOp,Act.eval,q1,f1,go_sem]) (aS hW)
       | 3,_,aC=>
        cases aC;have f2:=gT (hpre ⟨2,.data⟩ (by simp) (by rfl) _ _ rfl rfl);refine aG (by simp [execOp,Act.eval,f2,go_sem]) ((xJ d hd0 hd2 W).mono ?_);rintro ex wy ⟨rfl,hb⟩;exact ⟨_,rfl,_,rfl,rfl,hW.trans (hb.mono hsz),hb⟩
       | 4,_,aC=>
        cases aC;exact au (w':=W) (by simp [execOp,Act.eval,t7,go_sem]) (aS hW)
       | 5,_,aC=>
        cases aC;exact au (w':=W) (by simp [execOp,Act.eval,t9,go_sem]) (aS hW)
       | 6,_,aC=>
        cases aC;have f5:=gT (hpre ⟨5,.data⟩ (by simp) (by rfl) _ _ rfl rfl);exact au (w':=W) (by simp [execOp,Act.eval,s2,f5,go_sem]) (aS hW)
       | 7,_,aC=>
        cases aC;have f4:=gT (hpre ⟨4,.data⟩ (by simp) (by rfl) _ _ rfl rfl);have f6:=gT (hpre ⟨6,.data⟩ (by simp) (by rfl) _ _ rfl rfl);exact au (w':=W) (by simp [execOp,Act.eval,aw2,f4,f6,go_sem]) (aS hW)
       | 8,_,aC=>
        cases aC;have f7:=gT (hpre ⟨7,.data⟩ (by simp) (by rfl) _ _ rfl rfl);exact au (v:=.slice (some ⟨W.heap.size,0,none⟩) 1 1) (w':=W.alloc (.cells #[.int .i64 (b1+bG)] 3)) (by simp [execOp,Act.eval,f7,go_sem]) ⟨_,rfl,fA.new _ _ hsz,WA _,GA _⟩
       | 9,_,aC=>
        cases aC;have f3:=gT (hpre ⟨3,.data⟩ (by simp) (by rfl) _ _ rfl rfl);have p8:=hpre ⟨8,.data⟩ (by simp) (by rfl) _ _ rfl rfl;obtain ⟨b8,e8,QG,Qx,hc8⟩:=p8;have f8:=(Array.getD_eq_getD_getElem? ..).symm.trans e8;refine aG (by simp [execOp,Act.eval,f3,f8,go_sem]) ((fJ d (b1+bG) b8 W hd0 hbf0 hbf9 hdP (HM.out (b1+bG) hbf0 QF).2 Qx hc8).mono ?_);rintro ex wy ⟨rfl,hb⟩;exact ⟨_,rfl,_,rfl,rfl,hW.trans (hb.mono hsz),hb⟩
       | 10,_,aC=>
        cases aC;have f0:=gT (hpre ⟨0,.data⟩ (by simp) (by rfl) _ _ rfl rfl);have f9:=gT (hpre ⟨9,.data⟩ (by simp) (by rfl) _ _ rfl rfl);refine aG (by simp [execOp,Act.eval,f0,f9,go_sem]) ((KL p (d*(b1+bG)) hpp0 hpp1 (HM.out (b1+bG) hbf0 QF).1 (HM.out (b1+bG) hbf0 QF).2 W).mono ?_);rintro ex wy ⟨rfl,hb⟩;exact ⟨_,rfl,_,rfl,rfl,hW.trans (hb.mono hsz),hb⟩
       | ix+11,hi,_=>exact absurd hi (by omega)
      ·intro ax wD hsh hW hφ;have e0:=hφ 0 _ _ (by omega) rfl rfl;have e1:=hφ 1 _ _ (by omega) rfl rfl;have e2:=hφ 2 _ _ (by omega) rfl rfl;have e3:=hφ 3 _ _ (by omega) rfl rfl;have e4:=hφ 4 _ _ (by omega) rfl rfl;have e5:=hφ 5 _ _ (by omega) rfl rfl;have e6:=hφ 6 _ _ (by omega) rfl rfl;have e7:=hφ 7 _ _ (by omega) rfl rfl;obtain ⟨b8,e8,QG,Qx,hc8⟩:=hφ 8 _ _ (by omega) rfl rfl;have e9:=hφ 9 _ _ (by omega) rfl rfl;have e10:=hφ 10 _ _ (by omega) rfl rfl;rw [bf hsh [(44,_),(45,_),(46,_),(47,_),(48,_),(49,_),(50,_),(51,_),(52,_),(53,_),(54,_)] [44,45,46,47,48,49,50,51,52,53,54] rfl (by kernel_rfl) ⟨e0,e1,e2,e3,e4,e5,e6,e7,e8,e9,e10,trivial⟩];clear hφ hsh e0 e1 e2 e3 e4 e5 e6 e7 e8 e9 e10;clear hc8;simp only [cB,List.foldl_cons,List.foldl_nil,List.drop_succ_cons,List.drop_zero,Act.put,List.setIfInBounds_toArray,List.set_cons_succ,List.set_cons_zero];have HKD:=ah (HKC.out.below hW);have HSD:=ah (G5.out.below hW);clear hW HKC G5;by_cases hp2':p<d*(b1+bG)
       ·have hde2:decide (p<d*(b1+bG))=true:=by simpa using hp2'
        have HV:=ah (EH.out hp1' hp2');have hge:d*b1≤p:=by omega
        clear EH Hy;go_upto_region 10 with fail;refine aX (by kernel_rfl) 9 (by simp) (by kernel_rfl) (by kernel_rfl) (by kernel_rfl) (by kernel_rfl) (fun jx vx wx=>match jx with | 0=>vx=(.agg #[.int .u64 (hw 0 p),.int .u64 (hw 1 p),.int .u64 (hw 2 p),.int .u64 (hw 3 p),.int .u64 (hw 4 p),.int .u64 (hw 5 p)]) | 1=>vx=(.pointer (some ⟨w.heap.size+1,1,none⟩)) | 2=>vx=(.int .i64 d) | 3=>vx=(.agg #[.int .u64 (hw 0 d),.int .u64 (hw 1 d),.int .u64 (hw 2 d),.int .u64 (hw 3 d),.int .u64 (hw 4 d),.int .u64 (hw 5 d)]) | 4=>vx=(.int .i64 b1) | 5=>fA wD.heap.size vx (.int .i64 b1) wx | 6=>vx=(.agg #[.int .u64 (hw 0 (d*b1)),.int .u64 (hw 1 (d*b1)),.int .u64 (hw 2 (d*b1)),.int .u64 (hw 3 (d*b1)),.int .u64 (hw 4 (d*b1)),.int .u64 (hw 5 (d*b1))]) | 7=>vx=(.agg #[.int .u64 (hw 0 (p-d*b1)),.int .u64 (hw 1 (p-d*b1)),.int .u64 (hw 2 (p-d*b1)),.int .u64 (hw 3 (p-d*b1)),.int .u64 (hw 4 (p-d*b1)),.int .u64 (hw 5 (p-d*b1))]) | 8=>fF wD.heap.size 88 #[.int .u64 0,.int .u64 0,.int .u64 0,.int .u64 0,.int .u64 0,.int .u64 0] vx wx | _=>True) (fun W=>Below wD.heap.size wD W) (fun wx wy=>Below wx.heap.size wx wy) (Below.refl _ _).drew ?_ ?_ ?_ ?_
        ·intro jx vx wx wy h g
         match jx,h with
         | 0,h | 1,h | 2,h | 3,h | 4,h | 6,h | 7,h=>exact h
         | 5,h=>exact fA.up h g
         | 8,h=>exact fF.up h g
         | jx+9,h=>exact trivial
        ·intro jx ox dx hj ho hd;exact bO (by kernel_rfl) hj ho hd
        ·intro ix ox ax W hi aC hsh hW hpre;have hsz:wD.heap.size≤W.heap.size:=hW.size;have GA:∀ob,Below W.heap.size W (W.alloc ob):=fun ob=>(Below.refl _ _).alloc (Nat.le_refl _) ob;have WA:∀ob,Below wD.heap.size wD (W.alloc ob):=fun ob=>hW.alloc hsz ob;have t3:ax.tmps[3]?.getD undef=(.pointer (some ⟨w.heap.size+1,0,none⟩)):=gT (hsh.2.2 3 (aM (by kernel_rfl)));have t6:ax.tmps[6]?.getD undef=(.pointer (some ⟨pb,0,none⟩)):=gT (hsh.2.2 6 (aM (by kernel_rfl)));have t7:ax.tmps[7]?.getD undef=(.int .i64 b1):=gT (hsh.2.2 7 (aM (by kernel_rfl)));obtain ⟨q0,q1⟩:=(HKD.out.below hW).pc;obtain ⟨h0,h1,h2,h3,h4,h5⟩:=bJ (HKD.out.below hW).2.2.1;clear hsh
         match ix,hi,aC with
         | 0,_,aC=>
          cases aC;exact au (w':=W) (by simp [execOp,Act.eval,t6,h0,h1,h2,h3,h4,h5,go_sem]) (aS hW)
         | 1,_,aC=>
          cases aC;exact au (w':=W) (by simp [execOp,Act.eval,t3,go_sem]) (aS hW)
         | 2,_,aC=>
          cases aC;have f1:=gT (hpre ⟨1,.data⟩ (by simp) (by rfl) _ _ rfl rfl);exact au (w':=W) (by simp [execOp,Act.eval,q1,f1,go_sem]) (aS hW)
         | 3,_,aC=>
          cases aC;have f2:=gT (hpre ⟨2,.data⟩ (by simp) (by rfl) _ _ rfl rfl);refine aG (by simp [execOp,Act.eval,f2,go_sem]) ((xJ d hd0 hd2 W).mono ?_);rintro ex wy ⟨rfl,hb⟩;exact ⟨_,rfl,_,rfl,rfl,hW.trans (hb.mono hsz),hb⟩
         | 4,_,aC=>
          cases aC;exact au (w':=W) (by simp [execOp,Act.eval,t7,go_sem]) (aS hW)
         | 5,_,aC=>
          cases aC;have f4:=gT (hpre ⟨4,.data⟩ (by simp) (by rfl) _ _ rfl rfl);exact au (v:=.slice (some ⟨W.heap.size,0,none⟩) 1 1) (w':=W.alloc (.cells #[.int .i64 b1] 3)) (by simp [execOp,Act.eval,f4,go_sem]) ⟨_,rfl,fA.new _ _ hsz,WA _,GA _⟩
         | 6,_,aC=>
          cases aC;have f3:=gT (hpre ⟨3,.data⟩ (by simp) (by rfl) _ _ rfl rfl);have p5:=hpre ⟨5,.data⟩ (by simp) (by rfl) _ _ rfl rfl;obtain ⟨b5,e5,hb5,hl5,D5⟩:=p5;have f5:=(Array.getD_eq_getD_getElem? ..).symm.trans e5;refine aG (by simp [execOp,Act.eval,f3,f5,go_sem]) ((fJ d b1 b5 W hd0 hb0 MX hdP (HM.out b1 hb0 hb4).2 hl5 D5).mono ?_);rintro ex wy ⟨rfl,hb⟩;exact ⟨_,rfl,_,rfl,rfl,hW.trans (hb.mono hsz),hb⟩
         | 7,_,aC=>
          cases aC;have f0:=gT (hpre ⟨0,.data⟩ (by simp) (by rfl) _ _ rfl rfl);have f6:=gT (hpre ⟨6,.data⟩ (by simp) (by rfl) _ _ rfl rfl);refine aG (by simp [execOp,Act.eval,f0,f6,go_sem]) ((JD p (d*b1) hpp1 (HM.out b1 hb0 hb4).1 hge W).mono ?_);rintro ex wy ⟨rfl,hb⟩;exact ⟨_,rfl,_,rfl,rfl,hW.trans (hb.mono hsz),hb⟩
         | 8,_,aC=>
          cases aC;exact au (v:=.pointer (some ⟨W.heap.size,0,none⟩)) (w':=W.alloc (.cells #[.int .u64 0,.int .u64 0,.int .u64 0,.int .u64 0,.int .u64 0,.int .u64 0] 88)) (by simp [execOp,Act.eval,mP,go_sem]) ⟨_,rfl,fF.new _ _ hsz,WA _,GA _⟩
         | ix+9,hi,_=>exact absurd hi (by omega)
        ·intro ax wE hsh hW hφ;have e0:=hφ 0 _ _ (by omega) rfl rfl;have e1:=hφ 1 _ _ (by omega) rfl rfl;have e2:=hφ 2 _ _ (by omega) rfl rfl;have e3:=hφ 3 _ _ (by omega) rfl rfl;have e4:=hφ 4 _ _ (by omega) rfl rfl;obtain ⟨b5,e5,hb5,hl5,D5⟩:=hφ 5 _ _ (by omega) rfl rfl;have e6:=hφ 6 _ _ (by omega) rfl rfl;have e7:=hφ 7 _ _ (by omega) rfl rfl;obtain ⟨b8,e8,QG,Qx⟩:=hφ 8 _ _ (by omega) rfl rfl;rw [bf hsh [(55,_),(56,_),(57,_),(58,_),(59,_),(60,_),(61,_),(62,_),(10,_)] [55,56,57,58,59,60,61,62,10] rfl (by kernel_rfl) ⟨e0,e1,e2,e3,e4,e5,e6,e7,e8,trivial⟩];clear hφ hsh e0 e1 e2 e3 e4 e5 e6 e7 e8;clear D5;simp only [cB,List.foldl_cons,List.foldl_nil,List.drop_succ_cons,List.drop_zero,Act.put,List.setIfInBounds_toArray,List.set_cons_succ,List.set_cons_zero];have hzE:=hW.size;refine aZ wE rfl _ _ rfl b8 rfl rfl Qx ?_;intro wF tz gF;simp only [Act.put];have hzD:=HKD.out.size;have hzD2:=HSD.out.lt;have Ot:=ah ((HKD.out.below hW).fE gF (by omega) (by omega));have KV:=ah ((HSD.out.below hW).fE gF (by omega));have HZF:=ah tz;have hzb4:pb<b8∧sb<b8∧w.heap.size+4≤b8∧b8<wF.heap.size:=⟨by omega,by omega,by omega,tz.lt⟩;clear hW tz gF Qx HKD HSD hzE hzD hzD2 QG;obtain ⟨zb,hzb⟩:∃zb,zb=b8:=⟨_,rfl⟩;rw [←hzb] at HZF hzb4 ⊢;clear hzb;go_upto_region 11 with fail;refine aX (by kernel_rfl) 8 (by simp) (by kernel_rfl) (by kernel_rfl) (by kernel_rfl) (by kernel_rfl) (fun jx vx wx=>match jx with | 0=>vx=(.pointer (some ⟨w.heap.size+1,1,none⟩)) | 1=>vx=(.int .i64 d) | 2=>vx=(.agg #[.int .u64 (hw 0 d),.int .u64 (hw 1 d),.int .u64 (hw 2 d),.int .u64 (hw 3 d),.int .u64 (hw 4 d),.int .u64 (hw 5 d)]) | 3=>vx=(.pointer (some ⟨sb,2,none⟩)) | 4=>vx=(.int .i64 bG) | 5=>fA wF.heap.size vx (.int .i64 bG) wx | 6=>vx=(.agg #[.int .u64 (hw 0 (d*bG)),.int .u64 (hw 1 (d*bG)),.int .u64 (hw 2 (d*bG)),.int .u64 (hw 3 (d*bG)),.int .u64 (hw 4 (d*bG)),.int .u64 (hw 5 (d*bG))]) | 7=>fF wF.heap.size 88 #[.int .u64 0,.int .u64 0,.int .u64 0,.int .u64 0,.int .u64 0,.int .u64 0] vx wx | _=>True) (fun W=>Below wF.heap.size wF W) (fun wx wy=>Below wx.heap.size wx wy) (Below.refl _ _).drew ?_ ?_ ?_ ?_
         ·intro jx vx wx wy h g
          match jx,h with
          | 0,h | 1,h | 2,h | 3,h | 4,h | 6,h=>exact h
          | 5,h=>exact fA.up h g
          | 7,h=>exact fF.up h g
          | jx+8,h=>exact trivial
         ·intro jx ox dx hj ho hd;exact bO (by kernel_rfl) hj ho hd
         ·intro ix ox ax W hi aC hsh hW hpre;have hsz:wF.heap.size≤W.heap.size:=hW.size;have GA:∀ob,Below W.heap.size W (W.alloc ob):=fun ob=>(Below.refl _ _).alloc (Nat.le_refl _) ob;have WA:∀ob,Below wF.heap.size wF (W.alloc ob):=fun ob=>hW.alloc hsz ob;have t3:ax.tmps[3]?.getD undef=(.pointer (some ⟨w.heap.size+1,0,none⟩)):=gT (hsh.2.2 3 (aM (by kernel_rfl)));have t9:ax.tmps[9]?.getD undef=(.pointer (some ⟨sb,0,none⟩)):=gT (hsh.2.2 9 (aM (by kernel_rfl)));obtain ⟨q0,q1⟩:=(Ot.out.below hW).pc;obtain ⟨h0,h1,h2,h3,h4,h5⟩:=bJ (Ot.out.below hW).2.2.1;obtain ⟨s0,s1,s2⟩:=oP (KV.out.below hW);clear hsh
          match ix,hi,aC with
          | 0,_,aC=>
           cases aC;exact au (w':=W) (by simp [execOp,Act.eval,t3,go_sem]) (aS hW)
          | 1,_,aC=>
           cases aC;have f0:=gT (hpre ⟨0,.data⟩ (by simp) (by rfl) _ _ rfl rfl);exact au (w':=W) (by simp [execOp,Act.eval,q1,f0,go_sem]) (aS hW)
          | 2,_,aC=>
           cases aC;have f1:=gT (hpre ⟨1,.data⟩ (by simp) (by rfl) _ _ rfl rfl);refine aG (by simp [execOp,Act.eval,f1,go_sem]) ((xJ d hd0 hd2 W).mono ?_);rintro ex wy ⟨rfl,hb⟩;exact ⟨_,rfl,_,rfl,rfl,hW.trans (hb.mono hsz),hb⟩
          | 3,_,aC=>
           cases aC;exact au (w':=W) (by simp [execOp,Act.eval,t9,go_sem]) (aS hW)
          | 4,_,aC=>
           cases aC;have f3:=gT (hpre ⟨3,.data⟩ (by simp) (by rfl) _ _ rfl rfl);exact au (w':=W) (by simp [execOp,Act.eval,s2,f3,go_sem]) (aS hW)
          | 5,_,aC=>
           cases aC;have f4:=gT (hpre ⟨4,.data⟩ (by simp) (by rfl) _ _ rfl rfl);exact au (v:=.slice (some ⟨W.heap.size,0,none⟩) 1 1) (w':=W.alloc (.cells #[.int .i64 bG] 3)) (by simp [execOp,Act.eval,f4,go_sem]) ⟨_,rfl,fA.new _ _ hsz,WA _,GA _⟩
          | 6,_,aC=>
           cases aC;have f2:=gT (hpre ⟨2,.data⟩ (by simp) (by rfl) _ _ rfl rfl);have p5:=hpre ⟨5,.data⟩ (by simp) (by rfl) _ _ rfl rfl;obtain ⟨b5,e5,hb5,hl5,D5⟩:=p5;have f5:=(Array.getD_eq_getD_getElem? ..).symm.trans e5;refine aG (by simp [execOp,Act.eval,f2,f5,go_sem]) ((fJ d bG b5 W hd0 hf0 hf9 hdP (HM.out bG hf0 hf4).2 hl5 D5).mono ?_);rintro ex wy ⟨rfl,hb⟩;exact ⟨_,rfl,_,rfl,rfl,hW.trans (hb.mono hsz),hb⟩
          | 7,_,aC=>
           cases aC;exact au (v:=.pointer (some ⟨W.heap.size,0,none⟩)) (w':=W.alloc (.cells #[.int .u64 0,.int .u64 0,.int .u64 0,.int .u64 0,.int .u64 0,.int .u64 0] 88)) (by simp [execOp,Act.eval,mP,go_sem]) ⟨_,rfl,fF.new _ _ hsz,WA _,GA _⟩
          | ix+8,hi,_=>exact absurd hi (by omega)
         ·intro ax wG hsh hW hφ;have e0:=hφ 0 _ _ (by omega) rfl rfl;have e1:=hφ 1 _ _ (by omega) rfl rfl;have e2:=hφ 2 _ _ (by omega) rfl rfl;have e3:=hφ 3 _ _ (by omega) rfl rfl;have e4:=hφ 4 _ _ (by omega) rfl rfl;obtain ⟨b5,e5,hb5,hl5,D5⟩:=hφ 5 _ _ (by omega) rfl rfl;have e6:=hφ 6 _ _ (by omega) rfl rfl;obtain ⟨b7,e7,xD,Qy⟩:=hφ 7 _ _ (by omega) rfl rfl;rw [bf hsh [(63,_),(64,_),(65,_),(66,_),(67,_),(68,_),(69,_),(11,_)] [63,64,65,66,67,68,69,11] rfl (by kernel_rfl) ⟨e0,e1,e2,e3,e4,e5,e6,e7,trivial⟩];clear hφ hsh e0 e1 e2 e3 e4 e5 e6 e7;clear D5;simp only [cB,List.foldl_cons,List.foldl_nil,List.drop_succ_cons,List.drop_zero,Act.put,List.setIfInBounds_toArray,List.set_cons_succ,List.set_cons_zero];have hzG:=hW.size;refine aZ wG rfl _ _ rfl b7 rfl rfl Qy ?_;intro wH th gH;simp only [Act.put];have HKH:=ah ((Ot.out.below hW).fE gH (by omega) (by omega));have HSH:=ah ((KV.out.below hW).fE gH (by omega));have HZH:=ah ((HZF.out.below hW).fE gH (by omega));have HHH:=ah th;have hhb4:zb<b7∧b7<wH.heap.size:=⟨by omega,th.lt⟩;clear hW th gH Qy Ot KV HZF hzG xD;obtain ⟨hb_,hhb⟩:∃hb_,hb_=b7:=⟨_,rfl⟩;rw [←hhb] at HHH hhb4 ⊢;clear hhb;have hL0:0<L.length:=by omega
          have hnjl:nj<L.length:=by rw [←HNJ.out];exact Nat.mod_lt _ hL0
          have am:((j:Int)+1).tmod (L.length:Int)=(nj:Int):=by
           rw [←HNJ.out,Int.tmod_eq_emod_of_nonneg (by omega)];rfl
          have aj:IntKind.i64.wrap ((j:Int)+1)=(j:Int)+1:=IntWalk.i64_in _ (by omega);have am2:IntKind.i64.wrap (nj:Int)=(nj:Int):=IntWalk.i64_in _ (by omega);have Qv:(nj:Int)<(L.length:Int):=by omega
          have Qu:nj<L.length:=hnjl;have hl0:¬((L.length:Int)=0):=by omega
          have QB:¬L=[]:=by intro h;subst h;simp at hL0
          go_upto_region 12 with fail;refine aX (by kernel_rfl) 11 (by simp) (by kernel_rfl) (by kernel_rfl) (by kernel_rfl) (by kernel_rfl) (fun jx vx wx=>match jx with | 0=>vx=(.pointer (some ⟨w.heap.size,0,none⟩)) | 1=>vx=(.slice (some ⟨sp,off,none⟩) L.length cap) | 2=>vx=(.int .i64 (j:Int)) | 3=>vx=(.int .i64 ((j:Int)+1)) | 4=>vx=(.pointer (some ⟨w.heap.size,0,none⟩)) | 5=>vx=(.slice (some ⟨sp,off,none⟩) L.length cap) | 6=>vx=(.int .i64 (L.length:Int)) | 7=>vx=(.int .i64 (nj:Int)) | 8=>vx=(.pointer (some ⟨sp,off+nj*3,none⟩)) | 9=>vx=(.agg #[.int .i64 kT,.int .i64 Co,.int .i64 Cu]) | 10=>fF wH.heap.size 109 #[.int .i64 0,.int .i64 0,.int .i64 0] vx wx | _=>True) (fun W=>Below wH.heap.size wH W) (fun wx wy=>Below wx.heap.size wx wy) (Below.refl _ _).drew ?_ ?_ ?_ ?_
          ·intro jx vx wx wy h g
           match jx,h with
           | 0,h | 1,h | 2,h | 3,h | 4,h | 5,h | 6,h | 7,h | 8,h | 9,h=>exact h
           | 10,h=>exact fF.up h g
           | jx+11,h=>exact trivial
          ·intro jx ox dx hj ho hd;exact bO (by kernel_rfl) hj ho hd
          ·intro ix ox ax W hi aC hsh hW hpre;have hsz:wH.heap.size≤W.heap.size:=hW.size;have GA:∀ob,Below W.heap.size W (W.alloc ob):=fun ob=>(Below.refl _ _).alloc (Nat.le_refl _) ob;have WA:∀ob,Below wH.heap.size wH (W.alloc ob):=fun ob=>hW.alloc hsz ob;have t2:ax.tmps[2]?.getD undef=(.pointer (some ⟨w.heap.size,0,none⟩)):=gT (hsh.2.2 2 (aM (by kernel_rfl)));have t8:ax.tmps[8]?.getD undef=(.int .i64 (j:Int)):=gT (hsh.2.2 8 (aM (by kernel_rfl)));have r0:=(HKH.out.below hW).sc.1;obtain ⟨e0,e1,e2⟩:=HYC.out;have y0:=((HKH.out.below hW).bel.cell (p:=⟨sp,off+nj*3,none⟩) hsb).trans e0;have y1:=((HKH.out.below hW).bel.cell (p:=⟨sp,off+nj*3+1,none⟩) hsb).trans e1;have y2:=((HKH.out.below hW).bel.cell (p:=⟨sp,off+nj*3+2,none⟩) hsb).trans e2;clear hsh
           match ix,hi,aC with
           | 0,_,aC=>
            cases aC;exact au (w':=W) (by simp [execOp,Act.eval,t2,go_sem]) (aS hW)
           | 1,_,aC=>
            cases aC;have f0:=gT (hpre ⟨0,.data⟩ (by simp) (by rfl) _ _ rfl rfl);exact au (w':=W) (by simp [execOp,Act.eval,r0,f0,go_sem]) (aS hW)
           | 2,_,aC=>
            cases aC;exact au (w':=W) (by simp [execOp,Act.eval,t8,go_sem]) (aS hW)
           | 3,_,aC=>
            cases aC;have f2:=gT (hpre ⟨2,.data⟩ (by simp) (by rfl) _ _ rfl rfl);exact au (w':=W) (by simp [execOp,Act.eval,aj,f2,go_sem]) (aS hW)
           | 4,_,aC=>
            cases aC;exact au (w':=W) (by simp [execOp,Act.eval,t2,go_sem]) (aS hW)
           | 5,_,aC=>
            cases aC;have f4:=gT (hpre ⟨4,.data⟩ (by simp) (by rfl) _ _ rfl rfl);exact au (w':=W) (by simp [execOp,Act.eval,r0,f4,go_sem]) (aS hW)
           | 6,_,aC=>
            cases aC;have f5:=gT (hpre ⟨5,.data⟩ (by simp) (by rfl) _ _ rfl rfl);exact au (w':=W) (by simp [execOp,Act.eval,f5,go_sem]) (aS hW)
           | 7,_,aC=>
            cases aC;have f3:=gT (hpre ⟨3,.data⟩ (by simp) (by rfl) _ _ rfl rfl);have f6:=gT (hpre ⟨6,.data⟩ (by simp) (by rfl) _ _ rfl rfl);exact au (w':=W) (by simp [execOp,Act.eval,am,am2,hl0,QB,f3,f6,go_sem]) (aS hW)
           | 8,_,aC=>
            cases aC;have f1:=gT (hpre ⟨1,.data⟩ (by simp) (by rfl) _ _ rfl rfl);have f7:=gT (hpre ⟨7,.data⟩ (by simp) (by rfl) _ _ rfl rfl);exact au (w':=W) (by simp [execOp,Act.eval,Qv,Qu,f1,f7,go_sem]) (aS hW)
           | 9,_,aC=>
            cases aC;have f8:=gT (hpre ⟨8,.data⟩ (by simp) (by rfl) _ _ rfl rfl);exact au (w':=W) (by simp [execOp,Act.eval,y0,y1,y2,f8,go_sem]) (aS hW)
           | 10,_,aC=>
            cases aC;exact au (v:=.pointer (some ⟨W.heap.size,0,none⟩)) (w':=W.alloc (.cells #[.int .i64 0,.int .i64 0,.int .i64 0] 109)) (by simp [execOp,Act.eval,Ow,go_sem]) ⟨_,rfl,fF.new _ _ hsz,WA _,GA _⟩
           | ix+11,hi,_=>exact absurd hi (by omega)
          ·intro ax wI hsh hW hφ;have e0:=hφ 0 _ _ (by omega) rfl rfl;have e1:=hφ 1 _ _ (by omega) rfl rfl;have e2:=hφ 2 _ _ (by omega) rfl rfl;have e3:=hφ 3 _ _ (by omega) rfl rfl;have e4:=hφ 4 _ _ (by omega) rfl rfl;have e5:=hφ 5 _ _ (by omega) rfl rfl;have e6:=hφ 6 _ _ (by omega) rfl rfl;have e7:=hφ 7 _ _ (by omega) rfl rfl;have e8:=hφ 8 _ _ (by omega) rfl rfl;have e9:=hφ 9 _ _ (by omega) rfl rfl;obtain ⟨b10,e10,QI,uK⟩:=hφ 10 _ _ (by omega) rfl rfl;rw [bf hsh [(70,_),(71,_),(72,_),(73,_),(74,_),(75,_),(76,_),(77,_),(78,_),(79,_),(12,_)] [70,71,72,73,74,75,76,77,78,79,12] rfl (by kernel_rfl) ⟨e0,e1,e2,e3,e4,e5,e6,e7,e8,e9,e10,trivial⟩];clear hφ hsh e0 e1 e2 e3 e4 e5 e6 e7 e8 e9 e10;simp only [cB,List.foldl_cons,List.foldl_nil,List.drop_succ_cons,List.drop_zero,Act.put,List.setIfInBounds_toArray,List.set_cons_succ,List.set_cons_zero];have n0:=aH.cell (i:=0) (show aH wI b10 109 #[.int .i64 0,.int .i64 0,.int .i64 0] from uK) rfl;have n1:=aH.cell (i:=1) (show aH wI b10 109 #[.int .i64 0,.int .i64 0,.int .i64 0] from uK) rfl;have n2:=aH.cell (i:=2) (show aH wI b10 109 #[.int .i64 0,.int .i64 0,.int .i64 0] from uK) rfl;have nf0:=aH.frozen (show aH wI b10 109 #[.int .i64 0,.int .i64 0,.int .i64 0] from uK) 0;have nf1:=aH.frozen (show aH wI b10 109 #[.int .i64 0,.int .i64 0,.int .i64 0] from uK) 1;have nf2:=aH.frozen (show aH wI b10 109 #[.int .i64 0,.int .i64 0,.int .i64 0] from uK) 2;have HG:=ah (iw (iw (lF wI b10 0 (.int .i64 kT)) (lF _ b10 1 (.int .i64 Co))) (lF _ b10 2 (.int .i64 Cu)));have tn:=((aH.set (show aH wI b10 109 #[.int .i64 0,.int .i64 0,.int .i64 0] from uK) 0 (.int .i64 kT)).set 1 (.int .i64 Co)).set 2 (.int .i64 Cu);have HTN:=ah tn;have hn10:b10<wI.heap.size:=aH.lt (show aH wI b10 109 #[.int .i64 0,.int .i64 0,.int .i64 0] from uK);clear tn;go_upto_region 13 with fail;generalize hwJ:((wI.setCell ⟨b10,0,none⟩ (.int .i64 kT)).setCell ⟨b10,1,none⟩ (.int .i64 Co)).setCell ⟨b10,2,none⟩ (.int .i64 Cu)=wJ at *;clear hwJ n0 n1 n2 nf0 nf1 nf2 uK;have hzI:=hW.size;have HKJ:=ah ((HKH.out.below hW).fE HG.out (by omega) (by omega));have Oo:=ah ((HSH.out.below hW).fE HG.out (by omega));have HZJ:=ah ((HZH.out.below hW).fE HG.out (by omega));have HHJ:=ah ((HHH.out.below hW).fE HG.out (by omega));have HNJ2:=ah (show aH wJ b10 109 #[.int .i64 kT,.int .i64 Co,.int .i64 Cu] from HTN.out);clear hW HG HTN HKH HSH HZH HHH hzI QI hn10;obtain ⟨nb,hnb⟩:∃nb,nb=b10:=⟨_,rfl⟩;rw [←hnb] at HNJ2 ⊢;clear hnb;have hadd:d*(b1+bG)=d*b1+d*bG:=Int.mul_add _ _ _;obtain ⟨hw0,hw9⟩:=HM.out bG hf0 hf4;have hwB1:d*bG≤1000000000000000*3600000:=Int.le_trans (Int.mul_le_mul_of_nonneg_right EC hf0) (Int.mul_le_mul_of_nonneg_left hf1 (by omega));have hz0:0≤p-d*b1:=by omega
           have yP:p-d*b1≤d*bG:=by omega
           generalize d*bG=wh at *;generalize p-d*b1=zz at *;have hwP:wh<bE 6:=by omega
           have hzP:zz<bE 6:=by omega
           have hwz0:0≤wh-zz:=by omega
           have hwzP:wh-zz<bE 6:=by omega
           have hlv9:lv≤9223372036854775807:=by omega
           have hlw9:kT≤9223372036854775807:=by omega
           have hm10:0≤(wh-zz)*lv:=Int.mul_nonneg hwz0 hlv0;have hm20:0≤zz*kT:=Int.mul_nonneg hz0 hlw0;have hm1':(wh-zz)*lv≤1000000000000000*3600000*65535:=Int.le_trans (Int.mul_le_mul_of_nonneg_right (by omega) hlv0) (Int.mul_le_mul_of_nonneg_left hlv1 (by omega));have hm2':zz*kT≤1000000000000000*3600000*65535:=Int.le_trans (Int.mul_le_mul_of_nonneg_right (show zz≤1000000000000000*3600000 by omega) hlw0) (Int.mul_le_mul_of_nonneg_left hlw1 (by omega));have hm1:(wh-zz)*lv<bE 6:=by omega
           have hm2:zz*kT<bE 6:=by omega
           have hm3:(wh-zz)*lv+zz*kT<bE 6:=by omega
           have hm4:wh*65535<bE 6:=by omega
           clear hadd hp1' hp2' hde hde2 am aj am2 Qv Qu hl0 QB;refine aX (by kernel_rfl) 16 (by simp) (by kernel_rfl) (by kernel_rfl) (by kernel_rfl) (by kernel_rfl) (fun jx vx wx=>match jx with | 0=>vx=(.agg #[.int .u64 (hw 0 wh),.int .u64 (hw 1 wh),.int .u64 (hw 2 wh),.int .u64 (hw 3 wh),.int .u64 (hw 4 wh),.int .u64 (hw 5 wh)]) | 1=>vx=(.agg #[.int .u64 (hw 0 zz),.int .u64 (hw 1 zz),.int .u64 (hw 2 zz),.int .u64 (hw 3 zz),.int .u64 (hw 4 zz),.int .u64 (hw 5 zz)]) | 2=>vx=(.agg #[.int .u64 (hw 0 (wh-zz)),.int .u64 (hw 1 (wh-zz)),.int .u64 (hw 2 (wh-zz)),.int .u64 (hw 3 (wh-zz)),.int .u64 (hw 4 (wh-zz)),.int .u64 (hw 5 (wh-zz))]) | 3=>vx=(.pointer (some ⟨sb,0,none⟩)) | 4=>vx=(.int .i64 lv) | 5=>fA wJ.heap.size vx (.int .i64 lv) wx | 6=>vx=(.agg #[.int .u64 (hw 0 ((wh-zz)*lv)),.int .u64 (hw 1 ((wh-zz)*lv)),.int .u64 (hw 2 ((wh-zz)*lv)),.int .u64 (hw 3 ((wh-zz)*lv)),.int .u64 (hw 4 ((wh-zz)*lv)),.int .u64 (hw 5 ((wh-zz)*lv))]) | 7=>vx=(.agg #[.int .u64 (hw 0 zz),.int .u64 (hw 1 zz),.int .u64 (hw 2 zz),.int .u64 (hw 3 zz),.int .u64 (hw 4 zz),.int .u64 (hw 5 zz)]) | 8=>vx=(.pointer (some ⟨nb,0,none⟩)) | 9=>vx=(.int .i64 kT) | 10=>fA wJ.heap.size vx (.int .i64 kT) wx | 11=>vx=(.agg #[.int .u64 (hw 0 (zz*kT)),.int .u64 (hw 1 (zz*kT)),.int .u64 (hw 2 (zz*kT)),.int .u64 (hw 3 (zz*kT)),.int .u64 (hw 4 (zz*kT)),.int .u64 (hw 5 (zz*kT))]) | 12=>vx=(.agg #[.int .u64 (hw 0 ((wh-zz)*lv+zz*kT)),.int .u64 (hw 1 ((wh-zz)*lv+zz*kT)),.int .u64 (hw 2 ((wh-zz)*lv+zz*kT)),.int .u64 (hw 3 ((wh-zz)*lv+zz*kT)),.int .u64 (hw 4 ((wh-zz)*lv+zz*kT)),.int .u64 (hw 5 ((wh-zz)*lv+zz*kT))]) | 13=>vx=(.agg #[.int .u64 (hw 0 wh),.int .u64 (hw 1 wh),.int .u64 (hw 2 wh),.int .u64 (hw 3 wh),.int .u64 (hw 4 wh),.int .u64 (hw 5 wh)]) | 14=>fA wJ.heap.size vx (.int .i64 65535) wx | 15=>vx=(.agg #[.int .u64 (hw 0 (wh*65535)),.int .u64 (hw 1 (wh*65535)),.int .u64 (hw 2 (wh*65535)),.int .u64 (hw 3 (wh*65535)),.int .u64 (hw 4 (wh*65535)),.int .u64 (hw 5 (wh*65535))]) | _=>True) (fun W=>Below wJ.heap.size wJ W) (fun wx wy=>Below wx.heap.size wx wy) (Below.refl _ _).drew ?_ ?_ ?_ ?_
           ·intro jx vx wx wy h g
            match jx,h with
            | 0,h | 1,h | 2,h | 3,h | 4,h | 6,h | 7,h | 8,h | 9,h | 11,h | 12,h | 13,h | 15,h=>exact h
            | 5,h | 10,h | 14,h=>exact fA.up h g
            | jx+16,h=>exact trivial
           ·intro jx ox dx hj ho hd;exact bO (by kernel_rfl) hj ho hd
           ·intro ix ox ax W hi aC hsh hW hpre;have hsz:wJ.heap.size≤W.heap.size:=hW.size;have GA:∀ob,Below W.heap.size W (W.alloc ob):=fun ob=>(Below.refl _ _).alloc (Nat.le_refl _) ob;have WA:∀ob,Below wJ.heap.size wJ (W.alloc ob):=fun ob=>hW.alloc hsz ob;have t9:ax.tmps[9]?.getD undef=(.pointer (some ⟨sb,0,none⟩)):=gT (hsh.2.2 9 (aM (by kernel_rfl)));have t10:ax.tmps[10]?.getD undef=(.pointer (some ⟨zb,0,none⟩)):=gT (hsh.2.2 10 (aM (by kernel_rfl)));have t11:ax.tmps[11]?.getD undef=(.pointer (some ⟨hb_,0,none⟩)):=gT (hsh.2.2 11 (aM (by kernel_rfl)));have t12:ax.tmps[12]?.getD undef=(.pointer (some ⟨nb,0,none⟩)):=gT (hsh.2.2 12 (aM (by kernel_rfl)));obtain ⟨g0,g1,g2,g3,g4,g5⟩:=bJ (p:=wh) (HHJ.out.below hW);obtain ⟨k0,k1,k2,k3,k4,k5⟩:=bJ (p:=zz) (HZJ.out.below hW);obtain ⟨s0,s1,s2⟩:=oP (Oo.out.below hW);obtain ⟨v0,v1,v2⟩:=oP (HNJ2.out.below hW);clear hsh
            match ix,hi,aC with
            | 0,_,aC=>
             cases aC;exact au (w':=W) (by simp [execOp,Act.eval,t11,g0,g1,g2,g3,g4,g5,go_sem]) (aS hW)
            | 1,_,aC=>
             cases aC;exact au (w':=W) (by simp [execOp,Act.eval,t10,k0,k1,k2,k3,k4,k5,go_sem]) (aS hW)
            | 2,_,aC=>
             cases aC;have f0:=gT (hpre ⟨0,.data⟩ (by simp) (by rfl) _ _ rfl rfl);have f1:=gT (hpre ⟨1,.data⟩ (by simp) (by rfl) _ _ rfl rfl);refine aG (by simp [execOp,Act.eval,f0,f1,go_sem]) ((JD wh zz hwP hz0 yP W).mono ?_);rintro ex wy ⟨rfl,hb⟩;exact ⟨_,rfl,_,rfl,rfl,hW.trans (hb.mono hsz),hb⟩
            | 3,_,aC=>
             cases aC;exact au (w':=W) (by simp [execOp,Act.eval,t9,go_sem]) (aS hW)
            | 4,_,aC=>
             cases aC;have f3:=gT (hpre ⟨3,.data⟩ (by simp) (by rfl) _ _ rfl rfl);exact au (w':=W) (by simp [execOp,Act.eval,s0,f3,go_sem]) (aS hW)
            | 5,_,aC=>
             cases aC;have f4:=gT (hpre ⟨4,.data⟩ (by simp) (by rfl) _ _ rfl rfl);exact au (v:=.slice (some ⟨W.heap.size,0,none⟩) 1 1) (w':=W.alloc (.cells #[.int .i64 lv] 3)) (by simp [execOp,Act.eval,f4,go_sem]) ⟨_,rfl,fA.new _ _ hsz,WA _,GA _⟩
            | 6,_,aC=>
             cases aC;have f2:=gT (hpre ⟨2,.data⟩ (by simp) (by rfl) _ _ rfl rfl);have p5:=hpre ⟨5,.data⟩ (by simp) (by rfl) _ _ rfl rfl;obtain ⟨b5,e5,hb5,hl5,D5⟩:=p5;have f5:=(Array.getD_eq_getD_getElem? ..).symm.trans e5;refine aG (by simp [execOp,Act.eval,f2,f5,go_sem]) ((fJ (wh-zz) lv b5 W hwz0 hlv0 hlv9 hwzP hm1 hl5 D5).mono ?_);rintro ex wy ⟨rfl,hb⟩;exact ⟨_,rfl,_,rfl,rfl,hW.trans (hb.mono hsz),hb⟩
            | 7,_,aC=>
             cases aC;exact au (w':=W) (by simp [execOp,Act.eval,t10,k0,k1,k2,k3,k4,k5,go_sem]) (aS hW)
            | 8,_,aC=>
             cases aC;exact au (w':=W) (by simp [execOp,Act.eval,t12,go_sem]) (aS hW)
            | 9,_,aC=>
             cases aC;have f8:=gT (hpre ⟨8,.data⟩ (by simp) (by rfl) _ _ rfl rfl);exact au (w':=W) (by simp [execOp,Act.eval,v0,f8,go_sem]) (aS hW)
            | 10,_,aC=>
             cases aC;have f9:=gT (hpre ⟨9,.data⟩ (by simp) (by rfl) _ _ rfl rfl);exact au (v:=.slice (some ⟨W.heap.size,0,none⟩) 1 1) (w':=W.alloc (.cells #[.int .i64 kT] 3)) (by simp [execOp,Act.eval,f9,go_sem]) ⟨_,rfl,fA.new _ _ hsz,WA _,GA _⟩
            | 11,_,aC=>
             cases aC;have f7:=gT (hpre ⟨7,.data⟩ (by simp) (by rfl) _ _ rfl rfl);have p10:=hpre ⟨10,.data⟩ (by simp) (by rfl) _ _ rfl rfl;obtain ⟨b10,e10,QI,uK,Jg⟩:=p10;have f10:=(Array.getD_eq_getD_getElem? ..).symm.trans e10;refine aG (by simp [execOp,Act.eval,f7,f10,go_sem]) ((fJ zz kT b10 W hz0 hlw0 hlw9 hzP hm2 uK Jg).mono ?_);rintro ex wy ⟨rfl,hb⟩;exact ⟨_,rfl,_,rfl,rfl,hW.trans (hb.mono hsz),hb⟩
            | 12,_,aC=>
             cases aC;have f6:=gT (hpre ⟨6,.data⟩ (by simp) (by rfl) _ _ rfl rfl);have f11:=gT (hpre ⟨11,.data⟩ (by simp) (by rfl) _ _ rfl rfl);refine aG (by simp [execOp,Act.eval,f6,f11,go_sem]) ((Ap ((wh-zz)*lv) (zz*kT) hm10 hm20 hm3 W).mono ?_);rintro ex wy ⟨rfl,hb⟩;exact ⟨_,rfl,_,rfl,rfl,hW.trans (hb.mono hsz),hb⟩
            | 13,_,aC=>
             cases aC;exact au (w':=W) (by simp [execOp,Act.eval,t11,g0,g1,g2,g3,g4,g5,go_sem]) (aS hW)
            | 14,_,aC=>
             cases aC;exact au (v:=.slice (some ⟨W.heap.size,0,none⟩) 1 1) (w':=W.alloc (.cells #[.int .i64 65535] 3)) (by simp [execOp,Act.eval,go_sem]) ⟨_,rfl,fA.new _ _ hsz,WA _,GA _⟩
            | 15,_,aC=>
             cases aC;have f13:=gT (hpre ⟨13,.data⟩ (by simp) (by rfl) _ _ rfl rfl);have p14:=hpre ⟨14,.data⟩ (by simp) (by rfl) _ _ rfl rfl;obtain ⟨b14,e14,hb14,hl14,hc14⟩:=p14;have f14:=(Array.getD_eq_getD_getElem? ..).symm.trans e14;refine aG (by simp [execOp,Act.eval,f13,f14,go_sem]) ((fJ wh 65535 b14 W hw0 (by omega) (by omega) hwP hm4 hl14 hc14).mono ?_);rintro ex wy ⟨rfl,hb⟩;exact ⟨_,rfl,_,rfl,rfl,hW.trans (hb.mono hsz),hb⟩
            | ix+16,hi,_=>exact absurd hi (by omega)
           ·intro ax wK hsh hW hφ;have e0:=hφ 0 _ _ (by omega) rfl rfl;have e1:=hφ 1 _ _ (by omega) rfl rfl;have e2:=hφ 2 _ _ (by omega) rfl rfl;have e3:=hφ 3 _ _ (by omega) rfl rfl;have e4:=hφ 4 _ _ (by omega) rfl rfl;obtain ⟨b5,e5,hb5,hl5,D5⟩:=hφ 5 _ _ (by omega) rfl rfl;have e6:=hφ 6 _ _ (by omega) rfl rfl;have e7:=hφ 7 _ _ (by omega) rfl rfl;have e8:=hφ 8 _ _ (by omega) rfl rfl;have e9:=hφ 9 _ _ (by omega) rfl rfl;obtain ⟨b10,e10,QI,uK,Jg⟩:=hφ 10 _ _ (by omega) rfl rfl;have e11:=hφ 11 _ _ (by omega) rfl rfl;have e12:=hφ 12 _ _ (by omega) rfl rfl;have e13:=hφ 13 _ _ (by omega) rfl rfl;obtain ⟨b14,e14,hb14,hl14,hc14⟩:=hφ 14 _ _ (by omega) rfl rfl;have e15:=hφ 15 _ _ (by omega) rfl rfl;rw [bf hsh [(80,_),(81,_),(82,_),(83,_),(84,_),(85,_),(86,_),(87,_),(88,_),(89,_),(90,_),(91,_),(92,_),(93,_),(94,_),(95,_)] [80,81,82,83,84,85,86,87,88,89,90,91,92,93,94,95] rfl (by kernel_rfl) ⟨e0,e1,e2,e3,e4,e5,e6,e7,e8,e9,e10,e11,e12,e13,e14,e15,trivial⟩];clear hφ hsh e0 e1 e2 e3 e4 e5 e6 e7 e8 e9 e10 e11 e12 e13 e14 e15;clear D5;clear Jg;clear hc14;simp only [cB,List.foldl_cons,List.foldl_nil,List.drop_succ_cons,List.drop_zero,Act.put,List.setIfInBounds_toArray,List.set_cons_succ,List.set_cons_zero];have HKK:=ah (HKJ.out.below hW);clear hW;refine aZ wK rfl _ _ rfl (w.heap.size+2) rfl rfl HKK.out.2.1.1 ?_;intro wy t2 gg2;simp only [Act.put];refine aZ wy rfl _ _ rfl (w.heap.size+3) rfl rfl (HKK.out.2.1.2.fE gg2 (by omega)) ?_;intro wz t3 gg3;simp only [Act.put];have t2':=t2.fE gg3 (by omega);have gu:=ah (aY (aY HKK.out.bel gg2 HKK.out.bel.size (by omega)) gg3 (by have:=HKK.out.bel.size;have:=gg2.size;omega) (by omega));have x0:=t2'.cell (i:=0) rfl;have yy0:=t3.cell (i:=0) rfl;have x1:=t2'.cell (i:=1) rfl;have yy1:=t3.cell (i:=1) rfl;have x2:=t2'.cell (i:=2) rfl;have yy2:=t3.cell (i:=2) rfl;have x3:=t2'.cell (i:=3) rfl;have yy3:=t3.cell (i:=3) rfl;have x4:=t2'.cell (i:=4) rfl;have yy4:=t3.cell (i:=4) rfl;have x5:=t2'.cell (i:=5) rfl;have yy5:=t3.cell (i:=5) rfl;clear t2 t2' t3 gg2 gg3;go_wp2_with fail;exact bodyPost_ret (v:=.tuple #[.agg #[.int .u64 (hw 0 ((wh-zz)*lv+zz*kT)),.int .u64 (hw 1 ((wh-zz)*lv+zz*kT)),.int .u64 (hw 2 ((wh-zz)*lv+zz*kT)),.int .u64 (hw 3 ((wh-zz)*lv+zz*kT)),.int .u64 (hw 4 ((wh-zz)*lv+zz*kT)),.int .u64 (hw 5 ((wh-zz)*lv+zz*kT))],.agg #[.int .u64 (hw 0 (wh*65535)),.int .u64 (hw 1 (wh*65535)),.int .u64 (hw 2 (wh*65535)),.int .u64 (hw 3 (wh*65535)),.int .u64 (hw 4 (wh*65535)),.int .u64 (hw 5 (wh*65535))]]) (by simp [results,Tryz.results139,go_sem,x0,yy0,x1,yy1,x2,yy2,x3,yy3,x4,yy4,x5,yy5]) rfl ⟨by rw [HV.out],gu.out⟩
       ·have hde2:decide (p<d*(b1+bG))=false:=by simpa using hp2'
        have HRN:=ah (Hy.out hp1' hp2');clear EH Hy;obtain ⟨s0,s1,s2⟩:=oP HSD.out;have hsl:=HSD.out.lt;go_wp2_with fail;go_roundw
        case rel=>exact ⟨j+1,b1+bG,by omega,by first | rfl | go_num,rfl,by omega,by omega,HRN,HKD⟩
        case measure=>simp [intOf];omega
   ·have hjj:j=L.length:=by omega
    subst hjj;have HV:=ah (show RES=(0,1) by rw [HR.out,Nat.sub_self];rfl);go_wp2_with fail;refine (xJ 0 (by omega) (by omega) _).mono ?_;rintro e wa ⟨rfl,hba⟩;have sO:=ah (HK.out.below hba);clear hba;go_wp2_with fail;refine (xJ 1 (by omega) (by omega) _).mono ?_;rintro e wb ⟨rfl,hbb⟩;have NZ:=ah (sO.out.below hbb);clear hbb;have r2:=NZ.out.2.1.1;have r3:=NZ.out.2.1.2;have x0:wb.cell? ⟨w.heap.size+1+1,0,none⟩=_:=r2.cell (i:=0) rfl;have xf0:wb.frozen? ⟨w.heap.size+1+1,0,none⟩=_:=r2.frozen 0;have y0:wb.cell? ⟨w.heap.size+1+1+1,0,none⟩=_:=r3.cell (i:=0) rfl;have yf0:wb.frozen? ⟨w.heap.size+1+1+1,0,none⟩=_:=r3.frozen 0;have x1:wb.cell? ⟨w.heap.size+1+1,1,none⟩=_:=r2.cell (i:=1) rfl;have xf1:wb.frozen? ⟨w.heap.size+1+1,1,none⟩=_:=r2.frozen 1;have y1:wb.cell? ⟨w.heap.size+1+1+1,1,none⟩=_:=r3.cell (i:=1) rfl;have yf1:wb.frozen? ⟨w.heap.size+1+1+1,1,none⟩=_:=r3.frozen 1;have x2:wb.cell? ⟨w.heap.size+1+1,2,none⟩=_:=r2.cell (i:=2) rfl;have xf2:wb.frozen? ⟨w.heap.size+1+1,2,none⟩=_:=r2.frozen 2;have y2:wb.cell? ⟨w.heap.size+1+1+1,2,none⟩=_:=r3.cell (i:=2) rfl;have yf2:wb.frozen? ⟨w.heap.size+1+1+1,2,none⟩=_:=r3.frozen 2;have x3:wb.cell? ⟨w.heap.size+1+1,3,none⟩=_:=r2.cell (i:=3) rfl;have xf3:wb.frozen? ⟨w.heap.size+1+1,3,none⟩=_:=r2.frozen 3;have y3:wb.cell? ⟨w.heap.size+1+1+1,3,none⟩=_:=r3.cell (i:=3) rfl;have yf3:wb.frozen? ⟨w.heap.size+1+1+1,3,none⟩=_:=r3.frozen 3;have x4:wb.cell? ⟨w.heap.size+1+1,4,none⟩=_:=r2.cell (i:=4) rfl;have xf4:wb.frozen? ⟨w.heap.size+1+1,4,none⟩=_:=r2.frozen 4;have y4:wb.cell? ⟨w.heap.size+1+1+1,4,none⟩=_:=r3.cell (i:=4) rfl;have yf4:wb.frozen? ⟨w.heap.size+1+1+1,4,none⟩=_:=r3.frozen 4;have x5:wb.cell? ⟨w.heap.size+1+1,5,none⟩=_:=r2.cell (i:=5) rfl;have xf5:wb.frozen? ⟨w.heap.size+1+1,5,none⟩=_:=r2.frozen 5;have y5:wb.cell? ⟨w.heap.size+1+1+1,5,none⟩=_:=r3.cell (i:=5) rfl;have yf5:wb.frozen? ⟨w.heap.size+1+1+1,5,none⟩=_:=r3.frozen 5;have gu:=ah (fun (u0 u1 u2 u3 u4 u5 v0 v1 v2 v3 v4 v5:Value)=>((((((((((((NZ.out.bel.setCell (p:=⟨w.heap.size+1+1,0,none⟩) (by simp;omega) u0).setCell (p:=⟨w.heap.size+1+1,1,none⟩) (by simp;omega) u1).setCell (p:=⟨w.heap.size+1+1,2,none⟩) (by simp;omega) u2).setCell (p:=⟨w.heap.size+1+1,3,none⟩) (by simp;omega) u3).setCell (p:=⟨w.heap.size+1+1,4,none⟩) (by simp;omega) u4).setCell (p:=⟨w.heap.size+1+1,5,none⟩) (by simp;omega) u5).setCell (p:=⟨w.heap.size+1+1+1,0,none⟩) (by simp;omega) v0).setCell (p:=⟨w.heap.size+1+1+1,1,none⟩) (by simp;omega) v1).setCell (p:=⟨w.heap.size+1+1+1,2,none⟩) (by simp;omega) v2).setCell (p:=⟨w.heap.size+1+1+1,3,none⟩) (by simp;omega) v3).setCell (p:=⟨w.heap.size+1+1+1,4,none⟩) (by simp;omega) v4).setCell (p:=⟨w.heap.size+1+1+1,5,none⟩) (by simp;omega) v5));clear r2 r3;go_wp2_with fail;exact bodyPost_ret (v:=.tuple #[.agg #[.int .u64 (hw 0 0),.int .u64 (hw 1 0),.int .u64 (hw 2 0),.int .u64 (hw 3 0),.int .u64 (hw 4 0),.int .u64 (hw 5 0)],.agg #[.int .u64 (hw 0 1),.int .u64 (hw 1 1),.int .u64 (hw 2 1),.int .u64 (hw 3 1),.int .u64 (hw 4 1),.int .u64 (hw 5 1)]]) (by simp [results,Tryz.results139,go_sem,x0,y0,x1,y1,x2,y2,x3,y3,x4,y4,x5,y5]) rfl ⟨by rw [HV.out],gu.out _ _ _ _ _ _ _ _ _ _ _ _⟩
end Go.Proofs.YtopmdeefcjdadaaGreat
