import Derived.Test.YtopmdeefcjdadaaGreatT42M38
set_option maxRecDepth 100000
set_option maxHeartbeats 32000000
namespace Go.Proofs.YtopmdeefcjdadaaGreat
open Go.RowKit
theorem yh (w:World) {o:Oper} {a:Act} {K:Act→World→Prop} {Q:Exit→Act→World→Prop} {x0 x1 x2 x3 x4 x5 c0 c1 c2 c3 c4 c5:Int}
  (p x:Operand) (hop:o.op=Op.store 88 p x) (b:Nat) (hp:a.eval p=.pointer (some ⟨b,0,none⟩)) (hx:a.eval x=.agg #[.int .u64 x0,.int .u64 x1,.int .u64 x2,.int .u64 x3,.int .u64 x4,.int .u64 x5]) (hb:aH w b 88 #[.int .u64 c0,.int .u64 c1,.int .u64 c2,.int .u64 c3,.int .u64 c4,.int .u64 c5])
  (hK:∀w',aH w' b 88 #[.int .u64 x0,.int .u64 x1,.int .u64 x2,.int .u64 x3,.int .u64 x4,.int .u64 x5]→w.grownBy w' (some b)→K (a.put o.dst undef) w'):o.wp Tryz.prog a w K Q:=by
 have hT:=(((((hb.set 0 (.int .u64 x0)).set 1 (.int .u64 x1)).set 2 (.int .u64 x2)).set 3 (.int .u64 x3)).set 4 (.int .u64 x4)).set 5 (.int .u64 x5)
 have hG:w.grownBy ((((((w.setCell ⟨b,0,none⟩ (.int .u64 x0)).setCell ⟨b,1,none⟩ (.int .u64 x1)).setCell ⟨b,2,none⟩ (.int .u64 x2)).setCell ⟨b,3,none⟩ (.int .u64 x3)).setCell ⟨b,4,none⟩ (.int .u64 x4)).setCell ⟨b,5,none⟩ (.int .u64 x5)) (some b):=by
  exact iw (iw (iw (iw (iw (lF w b 0 _) (lF _ b 1 _)) (lF _ b 2 _)) (lF _ b 3 _)) (lF _ b 4 _)) (lF _ b 5 _)
 simp only [List.setIfInBounds_toArray,List.set_cons_succ,List.set_cons_zero] at hT;obtain ⟨w1,hw1⟩:∃w1:World,w1=((((((w.setCell ⟨b,0,none⟩ (.int .u64 x0)).setCell ⟨b,1,none⟩ (.int .u64 x1)).setCell ⟨b,2,none⟩ (.int .u64 x2)).setCell ⟨b,3,none⟩ (.int .u64 x3)).setCell ⟨b,4,none⟩ (.int .u64 x4)).setCell ⟨b,5,none⟩ (.int .u64 x5)):=⟨_,rfl⟩;rw [←hw1] at hT hG;have h:=hK w1 hT hG;rw [hw1] at h;have y0:=hb.cell (i:=0) rfl;have z0:=hb.frozen 0;have y1:=hb.cell (i:=1) rfl;have z1:=hb.frozen 1;have y2:=hb.cell (i:=2) rfl;have z2:=hb.frozen 2;have y3:=hb.cell (i:=3) rfl;have z3:=hb.frozen 3;have y4:=hb.cell (i:=4) rfl;have z4:=hb.frozen 4;have y5:=hb.cell (i:=5) rfl;have z5:=hb.frozen 5;clear hK hT hG hw1 hb;unfold Oper.wp;simp only [execOp,hop,hp,hx];go_simp;exact h
theorem boxes3 (w:World) (E A B:Array Value) (T H:TypeId):∃w1:World,w1=(((w.alloc (.cells E T)).alloc (.cells A H)).alloc (.cells B H))∧
  aH w1 w.heap.size T E∧aH w1 (w.heap.size+1) H A∧aH w1 (w.heap.size+2) H B∧Below w.heap.size w w1∧w1.heap.size=w.heap.size+3:=by
 refine ⟨_,rfl,?_,?_,?_,?_,?_⟩
 ·exact ((aH.new w E T).alloc _).alloc _
 ·have h:=(aH.new (w.alloc (.cells E T)) A H).alloc (.cells B H);simpa only [World.size_alloc] using h
 ·have h:=aH.new ((w.alloc (.cells E T)).alloc (.cells A H)) B H;simpa only [World.size_alloc] using h
 ·exact (((Below.refl _ _).alloc (Nat.le_refl _) _).alloc (by simp only [World.size_alloc];omega) _).alloc (by simp only [World.size_alloc];omega) _
 ·simp
theorem JE (w:World) (A B:Array Value) (H:TypeId):∃w1:World,w1=((w.alloc (.cells A H)).alloc (.cells B H))∧
  aH w1 w.heap.size H A∧aH w1 (w.heap.size+1) H B∧Below w.heap.size w w1∧w1.heap.size=w.heap.size+2:=by
 refine ⟨_,rfl,?_,?_,?_,?_⟩
 ·exact (aH.new w A H).alloc _
 ·have h:=aH.new (w.alloc (.cells A H)) B H;simpa only [World.size_alloc] using h
 ·exact ((Below.refl _ _).alloc (Nat.le_refl _) _).alloc (by simp only [World.size_alloc];omega) _
 ·simp
theorem Pg (aK low aD aA ay ak aB bP aN aQ t:Int) (aI rel:Bool) (sv kv rv:Value) (w:World) (s0:0≤aB) (s1:aB≤t) (t1:t≤36000000) (i0:0≤bP) (i1:bP≤36000000) (o0:0≤aQ) (o1:aQ≤36000000) (he:aN=-1∨aB≤aN∧aN≤36000000) (hg:aN=-1∨t<aN+aQ) :
  Calls Tryz.prog 39 #[.agg #[.int .i64 aK,.int .i64 low,.int .i64 aD,.int .i64 aA,.int .i64 ay,.int .i64 ak,.bool aI,.bool rel,sv,kv,.int .i64 aB,rv,.int .i64 bP,.int .i64 aN,.int .i64 aQ],.int .i64 t] w fun e w'=>e=.returned (.tuple #[.agg #[.int .u64 (hw 0 (l6 aB bP aN aQ t).1),.int .u64 (hw 1 (l6 aB bP aN aQ t).1),.int .u64 (hw 2 (l6 aB bP aN aQ t).1),.int .u64 (hw 3 (l6 aB bP aN aQ t).1),.int .u64 (hw 4 (l6 aB bP aN aQ t).1),.int .u64 (hw 5 (l6 aB bP aN aQ t).1)],.agg #[.int .u64 (hw 0 (l6 aB bP aN aQ t).2),.int .u64 (hw 1 (l6 aB bP aN aQ t).2),.int .u64 (hw 2 (l6 aB bP aN aQ t).2),.int .u64 (hw 3 (l6 aB bP aN aQ t).2),.int .u64 (hw 4 (l6 aB bP aN aQ t).2),.int .u64 (hw 5 (l6 aB bP aN aQ t).2)]])∧Below w.heap.size w w':=by
 have JR:=ah (show l6 aB bP aN aQ t=if aN≠-1∧aN<t then ((if t-aB<bP then t-aB else 1)*(aN+aQ-t),(if t-aB<bP then bP else 1)*aQ) else (if t-aB<bP then t-aB else 1,if t-aB<bP then bP else 1) from rfl);generalize l6 aB bP aN aQ t=SZ at *;obtain ⟨n1,hn1⟩:∃n1,(if t-aB<bP then t-aB else 1)=n1:=⟨_,rfl⟩;obtain ⟨d1,hd1⟩:∃d1,(if t-aB<bP then bP else 1)=d1:=⟨_,rfl⟩;rw [hn1,hd1] at JR
 have He:=ah (show (0≤n1∧n1≤36000000)∧0≤d1∧d1≤36000000 from by
  rw [←hn1,←hd1];by_cases c:t-aB<bP
  ·rw [if_pos c,if_pos c];omega
  ·rw [if_neg c,if_neg c];omega)
 have d0:0≤t-aB:=by omega
 have d9:t-aB≤9223372036854775807:=by omega
 have i9:bP≤9223372036854775807:=by omega
 have o9:aQ≤9223372036854775807:=by omega
 have aw:IntKind.i64.wrap (t-aB)=t-aB:=IntWalk.i64_in _ (by omega);go_enter Tryz.func39,Tryz.ntmps39;go_upto_region 1 with fail;obtain ⟨w1,hw1,t0,t4,t5,hB1,hz1⟩:=boxes3 w #[.int .i64 aK,.int .i64 low,.int .i64 aD,.int .i64 aA,.int .i64 ay,.int .i64 ak,.bool aI,.bool rel,sv,kv,.int .i64 aB,rv,.int .i64 bP,.int .i64 aN,.int .i64 aQ] #[.int .u64 0,.int .u64 0,.int .u64 0,.int .u64 0,.int .u64 0,.int .u64 0] #[.int .u64 0,.int .u64 0,.int .u64 0,.int .u64 0,.int .u64 0,.int .u64 0] 32 88;rw [←hw1];have T0:=ah t0;have T4:=ah t4;have T5:=ah t5;have HB1:=ah hB1;have HZ1:=ah hz1;clear hw1 t0 t4 t5 hB1 hz1;go_wp2_with fail;refine (xJ 1 (by decide) (by decide) _).mono ?_;rintro e w2 ⟨rfl,hb⟩;have U0:=ah (T0.out.below hb);have U4:=ah (T4.out.below hb);have U5:=ah (T5.out.below hb);have HB2:=ah (HB1.out.trans (hb.mono HB1.out.size));have HZ2:=ah (show w.heap.size+3≤w2.heap.size by have:=hb.size;have:=HZ1.out;omega);clear hb T0 T4 T5 HB1 HZ1;go_wp2_with fail;refine (xJ 1 (by decide) (by decide) _).mono ?_;rintro e w3 ⟨rfl,hb⟩;obtain ⟨w4,hw4,t6,t7,hB4,hz4⟩:=JE w3 #[.int .u64 (hw 0 1),.int .u64 (hw 1 1),.int .u64 (hw 2 1),.int .u64 (hw 3 1),.int .u64 (hw 4 1),.int .u64 (hw 5 1)] #[.int .u64 (hw 0 1),.int .u64 (hw 1 1),.int .u64 (hw 2 1),.int .u64 (hw 3 1),.int .u64 (hw 4 1),.int .u64 (hw 5 1)] 88;have V0:=ah ((U0.out.below hb).below hB4);have V4:=ah ((U4.out.below hb).below hB4);have V5:=ah ((U5.out.below hb).below hB4);have V6:=ah t6;have V7:=ah t7;have pU:=ah ((HB2.out.trans (hb.mono HB2.out.size)).trans (hB4.mono (Nat.le_trans HB2.out.size hb.size)));obtain ⟨b6,hb6⟩:∃b,w3.heap.size=b:=⟨_,rfl⟩;have HZ4:=ah (show w.heap.size+3≤b6 by have:=hb.size;have:=HZ2.out;omega);have HZ5:=ah (show b6+2=w4.heap.size by omega);rw [hb6] at V6 V7;clear hb U0 U4 U5 HB2 HZ2 t6 t7 hB4 hz4;go_upto_region 2 with fail;rw [←hw4];clear hw4 hb6;have kS:=V0.out.cell (i:=10) rfl;have nk:=V0.out.cell (i:=12) rfl;have ql:=V0.out.lt;go_upto_if 16 with fail;clear kS nk ql;go_cut [] (fun wx=>Hid (aH wx w.heap.size 32 #[.int .i64 aK,.int .i64 low,.int .i64 aD,.int .i64 aA,.int .i64 ay,.int .i64 ak,.bool aI,.bool rel,sv,kv,.int .i64 aB,rv,.int .i64 bP,.int .i64 aN,.int .i64 aQ])∧Hid (aH wx (w.heap.size+1) 88 #[.int .u64 0,.int .u64 0,.int .u64 0,.int .u64 0,.int .u64 0,.int .u64 0])∧Hid (aH wx (w.heap.size+2) 88 #[.int .u64 0,.int .u64 0,.int .u64 0,.int .u64 0,.int .u64 0,.int .u64 0])∧Hid (aH wx b6 88 #[.int .u64 (hw 0 n1),.int .u64 (hw 1 n1),.int .u64 (hw 2 n1),.int .u64 (hw 3 n1),.int .u64 (hw 4 n1),.int .u64 (hw 5 n1)])∧Hid (aH wx (b6+1) 88 #[.int .u64 (hw 0 d1),.int .u64 (hw 1 d1),.int .u64 (hw 2 d1),.int .u64 (hw 3 d1),.int .u64 (hw 4 d1),.int .u64 (hw 5 d1)])∧Hid (Below w.heap.size w wx))
 case first=>
  by_cases hlt:t-aB<bP
  ·rw [if_pos hlt] at hn1 hd1;subst hn1 hd1;go_upto_region 3 with fail;refine aX (by kernel_rfl) 8 (by simp) (by kernel_rfl) (by kernel_rfl) (by kernel_rfl) (by kernel_rfl) (fun jx vx wx=>match jx with | 0=>vx=(.int .i64 t) | 1=>vx=(.pointer (some ⟨w.heap.size,10,none⟩)) | 2=>vx=(.int .i64 aB) | 3=>vx=(.int .i64 (t-aB)) | 4=>vx=(.agg #[.int .u64 (hw 0 (t-aB)),.int .u64 (hw 1 (t-aB)),.int .u64 (hw 2 (t-aB)),.int .u64 (hw 3 (t-aB)),.int .u64 (hw 4 (t-aB)),.int .u64 (hw 5 (t-aB))]) | 5=>vx=(.pointer (some ⟨w.heap.size,12,none⟩)) | 6=>vx=(.int .i64 bP) | 7=>vx=(.agg #[.int .u64 (hw 0 bP),.int .u64 (hw 1 bP),.int .u64 (hw 2 bP),.int .u64 (hw 3 bP),.int .u64 (hw 4 bP),.int .u64 (hw 5 bP)]) | _=>True) (fun W=>Below w4.heap.size w4 W) (fun wx wy=>Below wx.heap.size wx wy) (Below.refl _ _).drew ?_ ?_ ?_ ?_
   ·intro jx vx wx wy h g
    match jx,h with
    | 0,h | 1,h | 2,h | 3,h | 4,h | 5,h | 6,h | 7,h=>exact h
    | jx+8,h=>exact trivial
   ·intro jx ox dx hj ho hd;exact bO (by kernel_rfl) hj ho hd
   ·intro ix ox ax W hi aC hsh hW hpre;have hsz:w4.heap.size≤W.heap.size:=hW.size;have GA:∀ob,Below W.heap.size W (W.alloc ob):=fun ob=>(Below.refl _ _).alloc (Nat.le_refl _) ob;have WA:∀ob,Below w4.heap.size w4 (W.alloc ob):=fun ob=>hW.alloc hsz ob;have t1:ax.tmps[1]?.getD undef=(.int .i64 t):=gT (hsh.2.2 1 (aM (by kernel_rfl)));have t2:ax.tmps[2]?.getD undef=(.pointer (some ⟨w.heap.size,0,none⟩)):=gT (hsh.2.2 2 (aM (by kernel_rfl)));have kS:=(V0.out.below hW).cell (i:=10) rfl;have nk:=(V0.out.below hW).cell (i:=12) rfl;clear hsh
    match ix,hi,aC with
    | 0,_,aC=>
     cases aC;exact au (w':=W) (by simp [execOp,Act.eval,t1,go_sem]) (aS hW)
    | 1,_,aC=>
     cases aC;exact au (w':=W) (by simp [execOp,Act.eval,t2,go_sem]) (aS hW)
    | 2,_,aC=>
     cases aC;have f1:=gT (hpre ⟨1,.data⟩ (by simp) (by rfl) _ _ rfl rfl);exact au (w':=W) (by simp [execOp,Act.eval,kS,f1,go_sem]) (aS hW)
    | 3,_,aC=>
     cases aC;have f0:=gT (hpre ⟨0,.data⟩ (by simp) (by rfl) _ _ rfl rfl);have f2:=gT (hpre ⟨2,.data⟩ (by simp) (by rfl) _ _ rfl rfl);exact au (w':=W) (by simp [execOp,Act.eval,aw,f0,f2,go_sem]) (aS hW)
    | 4,_,aC=>
     cases aC;have f3:=gT (hpre ⟨3,.data⟩ (by simp) (by rfl) _ _ rfl rfl);refine aG (by simp [execOp,Act.eval,f3,go_sem]) ((xJ (t-aB) d0 d9 W).mono ?_);rintro ex wy ⟨rfl,hb⟩;exact ⟨_,rfl,_,rfl,rfl,hW.trans (hb.mono hsz),hb⟩
    | 5,_,aC=>
     cases aC;exact au (w':=W) (by simp [execOp,Act.eval,t2,go_sem]) (aS hW)
    | 6,_,aC=>
     cases aC;have f5:=gT (hpre ⟨5,.data⟩ (by simp) (by rfl) _ _ rfl rfl);exact au (w':=W) (by simp [execOp,Act.eval,nk,f5,go_sem]) (aS hW)
    | 7,_,aC=>
     cases aC;have f6:=gT (hpre ⟨6,.data⟩ (by simp) (by rfl) _ _ rfl rfl);refine aG (by simp [execOp,Act.eval,f6,go_sem]) ((xJ bP i0 i9 W).mono ?_);rintro ex wy ⟨rfl,hb⟩;exact ⟨_,rfl,_,rfl,rfl,hW.trans (hb.mono hsz),hb⟩
    | ix+8,hi,_=>exact absurd hi (by omega)
   ·intro ax W hsh hW hφ;have e0:=hφ 0 _ _ (by omega) rfl rfl;have e1:=hφ 1 _ _ (by omega) rfl rfl;have e2:=hφ 2 _ _ (by omega) rfl rfl;have e3:=hφ 3 _ _ (by omega) rfl rfl;have e4:=hφ 4 _ _ (by omega) rfl rfl;have e5:=hφ 5 _ _ (by omega) rfl rfl;have e6:=hφ 6 _ _ (by omega) rfl rfl;have e7:=hφ 7 _ _ (by omega) rfl rfl;rw [bf hsh [(17,_),(18,_),(19,_),(20,_),(21,_),(22,_),(23,_),(24,_)] [17,18,19,20,21,22,23,24] rfl (by kernel_rfl) ⟨e0,e1,e2,e3,e4,e5,e6,e7,trivial⟩];clear hφ hsh e0 e1 e2 e3 e4 e5 e6 e7;simp only [cB,List.foldl_cons,List.foldl_nil,List.drop_succ_cons,List.drop_zero,Act.put,List.setIfInBounds_toArray,List.set_cons_succ,List.set_cons_zero];have X0:=V0.out.below hW;have X4:=V4.out.below hW;have X5:=V5.out.below hW;have X6:=V6.out.below hW;have X7:=V7.out.below hW;have XB:=pU.out.trans (hW.mono pU.out.size);have z4:=HZ4.out;clear hW;refine aZ W rfl _ _ rfl b6 rfl rfl X6 ?_;intro wy t6 g6;simp only [Act.put];refine aZ wy rfl _ _ rfl (b6+1) rfl rfl (X7.fE g6 (by omega)) ?_;intro wz t7 g7;simp only [Act.put];have Y0:=ah ((X0.fE g6 (by omega)).fE g7 (by omega));have Y4:=ah ((X4.fE g6 (by omega)).fE g7 (by omega));have Y5:=ah ((X5.fE g6 (by omega)).fE g7 (by omega));have Y6:=ah (t6.fE g7 (by omega));have Y7:=ah t7;have lM:=ah (aY (aY XB g6 XB.size (by omega)) g7 (by have:=XB.size;have:=g6.size;omega) (by omega));clear X0 X4 X5 X6 X7 XB t6 t7 g6 g7;go_wp2_with fail;go_meet;exact ⟨Y0,Y4,Y5,Y6,Y7,lM⟩
  ·rw [if_neg hlt] at hn1 hd1;subst hn1 hd1;go_wp2_with fail;go_meet;exact ⟨V0,V4,V5,V6,V7,pU⟩
 case rest=>
  obtain ⟨X0,X4,X5,X6,X7,XB⟩:=hcut;obtain ⟨w5,rfl⟩:∃x,x=wc:=⟨wc,rfl⟩;clear V0 V4 V5 V6 V7 pU hn1 hd1;go_upto_region 4 with fail;go_cut [33] (fun c wx=>c=.bool (decide (aN≠-1)&&decide (aN<t))∧w5=wx)
  case first=>
   have ow:=X0.out.cell (i:=13) rfl;have ql:=X0.out.lt;by_cases hte:aN=-1
   ·subst hte;go_wp2_with fail;go_meet;exact ⟨rfl,rfl⟩
   ·have hb1:(aN !=-1)=true:=by simp [hte]
    go_wp2_with fail;go_meet;exact ⟨by simp [hte],rfl⟩
  case rest=>
  obtain ⟨rfl,rfl⟩:=hcut;have oo:=ah (show SZ=if (decide (aN≠-1)&&decide (aN<t))=true then (n1*(aN+aQ-t),d1*aQ) else (n1,d1) by rw [JR.out];by_cases c:aN=-1<;>by_cases d:aN<t<;>simp [c,d]);have HCC:=ah (show (decide (aN≠-1)&&decide (aN<t))=true→0<aN+aQ-t∧aN≤36000000 from fun h=>by simp at h;omega);generalize (decide (aN≠-1)&&decide (aN<t))=CB at *;clear JR;go_upto_if 33 with fail;go_cut [] (fun wx=>∃n2 d2:Int,Hid (SZ=(n2,d2))∧Hid (aH wx (w.heap.size+1) 88 #[.int .u64 0,.int .u64 0,.int .u64 0,.int .u64 0,.int .u64 0,.int .u64 0])∧Hid (aH wx (w.heap.size+2) 88 #[.int .u64 0,.int .u64 0,.int .u64 0,.int .u64 0,.int .u64 0,.int .u64 0])∧Hid (aH wx b6 88 #[.int .u64 (hw 0 n2),.int .u64 (hw 1 n2),.int .u64 (hw 2 n2),.int .u64 (hw 3 n2),.int .u64 (hw 4 n2),.int .u64 (hw 5 n2)])∧Hid (aH wx (b6+1) 88 #[.int .u64 (hw 0 d2),.int .u64 (hw 1 d2),.int .u64 (hw 2 d2),.int .u64 (hw 3 d2),.int .u64 (hw 4 d2),.int .u64 (hw 5 d2)])∧Hid (Below w.heap.size w wx))
  case first=>
   cases CB
   ·have HV:=ah (show SZ=(n1,d1) by rw [oo.out];rfl);go_wp2_with fail;go_meet;exact ⟨n1,d1,HV,X4,X5,X6,X7,XB⟩
   ·have HV:=ah (show SZ=(n1*(aN+aQ-t),d1*aQ) by rw [oo.out];rfl);obtain ⟨hgt,hte⟩:=HCC.out rfl;have aw1:IntKind.i64.wrap (aN+aQ)=aN+aQ:=IntWalk.i64_in _ (by omega);have aw2:IntKind.i64.wrap (aN+aQ-t)=aN+aQ-t:=IntWalk.i64_in _ (by omega);have m0:0≤aN+aQ-t:=by omega
    have m9:aN+aQ-t≤9223372036854775807:=by omega
    obtain ⟨⟨n0,n9⟩,e0,e9⟩:=He.out;have hbig:=lg;have nP:n1<bE 6:=by omega
    have dP:d1<bE 6:=by omega
    have nmP:n1*(aN+aQ-t)<bE 6:=by
     have:=(dJ (a:=n1) (b:=aN+aQ-t) (A:=36000000) (B:=72000000) n0 m0 n9 (by omega)).2;omega
    have dmP:d1*aQ<bE 6:=by
     have:=(dJ (a:=d1) (b:=aQ) (A:=36000000) (B:=36000000) e0 o0 e9 o1).2;omega
    have HP:=ah (show (n1<bE 6∧d1<bE 6)∧n1*(aN+aQ-t)<bE 6∧d1*aQ<bE 6 from ⟨⟨nP,dP⟩,nmP,dmP⟩);clear hbig nP dP nmP dmP;go_upto_region 5 with fail;obtain ⟨⟨nP,dP⟩,nmP,dmP⟩:=HP.out;obtain ⟨⟨n0,n9⟩,e0,e9⟩:=He.out;refine aX (by kernel_rfl) 15 (by simp) (by kernel_rfl) (by kernel_rfl) (by kernel_rfl) (by kernel_rfl) (fun jx vx wx=>match jx with | 0=>vx=(.agg #[.int .u64 (hw 0 n1),.int .u64 (hw 1 n1),.int .u64 (hw 2 n1),.int .u64 (hw 3 n1),.int .u64 (hw 4 n1),.int .u64 (hw 5 n1)]) | 1=>vx=(.pointer (some ⟨w.heap.size,13,none⟩)) | 2=>vx=(.int .i64 aN) | 3=>vx=(.pointer (some ⟨w.heap.size,14,none⟩)) | 4=>vx=(.int .i64 aQ) | 5=>vx=(.int .i64 (aN+aQ)) | 6=>vx=(.int .i64 t) | 7=>vx=(.int .i64 (aN+aQ-t)) | 8=>fA w5.heap.size vx (.int .i64 (aN+aQ-t)) wx | 9=>vx=(.agg #[.int .u64 (hw 0 (n1*(aN+aQ-t))),.int .u64 (hw 1 (n1*(aN+aQ-t))),.int .u64 (hw 2 (n1*(aN+aQ-t))),.int .u64 (hw 3 (n1*(aN+aQ-t))),.int .u64 (hw 4 (n1*(aN+aQ-t))),.int .u64 (hw 5 (n1*(aN+aQ-t)))]) | 10=>vx=(.agg #[.int .u64 (hw 0 d1),.int .u64 (hw 1 d1),.int .u64 (hw 2 d1),.int .u64 (hw 3 d1),.int .u64 (hw 4 d1),.int .u64 (hw 5 d1)]) | 11=>vx=(.pointer (some ⟨w.heap.size,14,none⟩)) | 12=>vx=(.int .i64 aQ) | 13=>fA w5.heap.size vx (.int .i64 aQ) wx | 14=>vx=(.agg #[.int .u64 (hw 0 (d1*aQ)),.int .u64 (hw 1 (d1*aQ)),.int .u64 (hw 2 (d1*aQ)),.int .u64 (hw 3 (d1*aQ)),.int .u64 (hw 4 (d1*aQ)),.int .u64 (hw 5 (d1*aQ))]) | _=>True) (fun W=>Below w5.heap.size w5 W) (fun wx wy=>Below wx.heap.size wx wy) (Below.refl _ _).drew ?_ ?_ ?_ ?_
    ·intro jx vx wx wy h g
     match jx,h with
     | 0,h | 1,h | 2,h | 3,h | 4,h | 5,h | 6,h | 7,h | 9,h | 10,h | 11,h | 12,h | 14,h=>exact h
     | 8,h | 13,h=>exact fA.up h g
     | jx+15,h=>exact trivial
    ·intro jx ox dx hj ho hd;exact bO (by kernel_rfl) hj ho hd
    ·intro ix ox ax W hi aC hsh hW hpre;have hsz:w5.heap.size≤W.heap.size:=hW.size;have GA:∀ob,Below W.heap.size W (W.alloc ob):=fun ob=>(Below.refl _ _).alloc (Nat.le_refl _) ob;have WA:∀ob,Below w5.heap.size w5 (W.alloc ob):=fun ob=>hW.alloc hsz ob;have t1:ax.tmps[1]?.getD undef=(.int .i64 t):=gT (hsh.2.2 1 (aM (by kernel_rfl)));have t2:ax.tmps[2]?.getD undef=(.pointer (some ⟨w.heap.size,0,none⟩)):=gT (hsh.2.2 2 (aM (by kernel_rfl)));have t6:ax.tmps[6]?.getD undef=(.pointer (some ⟨b6,0,none⟩)):=gT (hsh.2.2 6 (aM (by kernel_rfl)));have t7:ax.tmps[7]?.getD undef=(.pointer (some ⟨(b6+1),0,none⟩)):=gT (hsh.2.2 7 (aM (by kernel_rfl)));have ow:=(X0.out.below hW).cell (i:=13) rfl;have ou:=(X0.out.below hW).cell (i:=14) rfl;obtain ⟨x0,x1,x2,x3,x4,x5⟩:=bJ (X6.out.below hW);obtain ⟨y0,y1,y2,y3,y4,y5⟩:=bJ (X7.out.below hW);clear hsh
     match ix,hi,aC with
     | 0,_,aC=>
      cases aC;exact au (w':=W) (by simp [execOp,Act.eval,t6,x0,x1,x2,x3,x4,x5,go_sem]) (aS hW)
     | 1,_,aC=>
      cases aC;exact au (w':=W) (by simp [execOp,Act.eval,t2,go_sem]) (aS hW)
     | 2,_,aC=>
      cases aC;have f1:=gT (hpre ⟨1,.data⟩ (by simp) (by rfl) _ _ rfl rfl);exact au (w':=W) (by simp [execOp,Act.eval,ow,f1,go_sem]) (aS hW)
     | 3,_,aC=>
      cases aC;exact au (w':=W) (by simp [execOp,Act.eval,t2,go_sem]) (aS hW)
     | 4,_,aC=>
      cases aC;have f3:=gT (hpre ⟨3,.data⟩ (by simp) (by rfl) _ _ rfl rfl);exact au (w':=W) (by simp [execOp,Act.eval,ou,f3,go_sem]) (aS hW)
     | 5,_,aC=>
      cases aC;have f2:=gT (hpre ⟨2,.data⟩ (by simp) (by rfl) _ _ rfl rfl);have f4:=gT (hpre ⟨4,.data⟩ (by simp) (by rfl) _ _ rfl rfl);exact au (w':=W) (by simp [execOp,Act.eval,aw1,f2,f4,go_sem]) (aS hW)
     | 6,_,aC=>
      cases aC;exact au (w':=W) (by simp [execOp,Act.eval,t1,go_sem]) (aS hW)
     | 7,_,aC=>
      cases aC;have f5:=gT (hpre ⟨5,.data⟩ (by simp) (by rfl) _ _ rfl rfl);have f6:=gT (hpre ⟨6,.data⟩ (by simp) (by rfl) _ _ rfl rfl);exact au (w':=W) (by simp [execOp,Act.eval,aw2,f5,f6,go_sem]) (aS hW)
     | 8,_,aC=>
      cases aC;have f7:=gT (hpre ⟨7,.data⟩ (by simp) (by rfl) _ _ rfl rfl);exact au (v:=.slice (some ⟨W.heap.size,0,none⟩) 1 1) (w':=W.alloc (.cells #[.int .i64 (aN+aQ-t)] 3)) (by simp [execOp,Act.eval,f7,go_sem]) ⟨_,rfl,fA.new _ _ hsz,WA _,GA _⟩
     | 9,_,aC=>
      cases aC;have f0:=gT (hpre ⟨0,.data⟩ (by simp) (by rfl) _ _ rfl rfl);have p8:=hpre ⟨8,.data⟩ (by simp) (by rfl) _ _ rfl rfl;obtain ⟨b8,e8,QG,Qx,hc8⟩:=p8;have f8:=(Array.getD_eq_getD_getElem? ..).symm.trans e8;refine aG (by simp [execOp,Act.eval,f0,f8,go_sem]) ((fJ n1 (aN+aQ-t) b8 W n0 m0 m9 nP nmP Qx hc8).mono ?_);rintro ex wy ⟨rfl,hb⟩;exact ⟨_,rfl,_,rfl,rfl,hW.trans (hb.mono hsz),hb⟩
     | 10,_,aC=>
      cases aC;exact au (w':=W) (by simp [execOp,Act.eval,t7,y0,y1,y2,y3,y4,y5,go_sem]) (aS hW)
     | 11,_,aC=>
      cases aC;exact au (w':=W) (by simp [execOp,Act.eval,t2,go_sem]) (aS hW)
     | 12,_,aC=>
      cases aC;have f11:=gT (hpre ⟨11,.data⟩ (by simp) (by rfl) _ _ rfl rfl);exact au (w':=W) (by simp [execOp,Act.eval,ou,f11,go_sem]) (aS hW)
     | 13,_,aC=>
      cases aC;have f12:=gT (hpre ⟨12,.data⟩ (by simp) (by rfl) _ _ rfl rfl);exact au (v:=.slice (some ⟨W.heap.size,0,none⟩) 1 1) (w':=W.alloc (.cells #[.int .i64 aQ] 3)) (by simp [execOp,Act.eval,f12,go_sem]) ⟨_,rfl,fA.new _ _ hsz,WA _,GA _⟩
     | 14,_,aC=>
      cases aC;have f10:=gT (hpre ⟨10,.data⟩ (by simp) (by rfl) _ _ rfl rfl);have p13:=hpre ⟨13,.data⟩ (by simp) (by rfl) _ _ rfl rfl;obtain ⟨b13,e13,Ji,QA,Jf⟩:=p13;have f13:=(Array.getD_eq_getD_getElem? ..).symm.trans e13;refine aG (by simp [execOp,Act.eval,f10,f13,go_sem]) ((fJ d1 aQ b13 W e0 o0 o9 dP dmP QA Jf).mono ?_);rintro ex wy ⟨rfl,hb⟩;exact ⟨_,rfl,_,rfl,rfl,hW.trans (hb.mono hsz),hb⟩
     | ix+15,hi,_=>exact absurd hi (by omega)
    ·intro ax W hsh hW hφ;have e0:=hφ 0 _ _ (by omega) rfl rfl;have e1:=hφ 1 _ _ (by omega) rfl rfl;have e2:=hφ 2 _ _ (by omega) rfl rfl;have e3:=hφ 3 _ _ (by omega) rfl rfl;have e4:=hφ 4 _ _ (by omega) rfl rfl;have e5:=hφ 5 _ _ (by omega) rfl rfl;have e6:=hφ 6 _ _ (by omega) rfl rfl;have e7:=hφ 7 _ _ (by omega) rfl rfl;obtain ⟨b8,e8,QG,Qx,hc8⟩:=hφ 8 _ _ (by omega) rfl rfl;have e9:=hφ 9 _ _ (by omega) rfl rfl;have e10:=hφ 10 _ _ (by omega) rfl rfl;have e11:=hφ 11 _ _ (by omega) rfl rfl;have e12:=hφ 12 _ _ (by omega) rfl rfl;obtain ⟨b13,e13,Ji,QA,Jf⟩:=hφ 13 _ _ (by omega) rfl rfl;have e14:=hφ 14 _ _ (by omega) rfl rfl;rw [bf hsh [(34,_),(35,_),(36,_),(37,_),(38,_),(39,_),(40,_),(41,_),(42,_),(43,_),(44,_),(45,_),(46,_),(47,_),(48,_)] [34,35,36,37,38,39,40,41,42,43,44,45,46,47,48] rfl (by kernel_rfl) ⟨e0,e1,e2,e3,e4,e5,e6,e7,e8,e9,e10,e11,e12,e13,e14,trivial⟩];clear hφ hsh e0 e1 e2 e3 e4 e5 e6 e7 e8 e9 e10 e11 e12 e13 e14;clear hc8;clear Jf;simp only [cB,List.foldl_cons,List.foldl_nil,List.drop_succ_cons,List.drop_zero,Act.put,List.setIfInBounds_toArray,List.set_cons_succ,List.set_cons_zero];have Y4:=X4.out.below hW;have Y5:=X5.out.below hW;have Y6:=X6.out.below hW;have Y7:=X7.out.below hW;have YB:=XB.out.trans (hW.mono XB.out.size);have z4:=HZ4.out;clear hW;refine aZ W rfl _ _ rfl b6 rfl rfl Y6 ?_;intro wy t6 g6;simp only [Act.put];refine aZ wy rfl _ _ rfl (b6+1) rfl rfl (Y7.fE g6 (by omega)) ?_;intro wz t7 g7;simp only [Act.put];have Z4:=ah ((Y4.fE g6 (by omega)).fE g7 (by omega));have Z5:=ah ((Y5.fE g6 (by omega)).fE g7 (by omega));have Z6:=ah (t6.fE g7 (by omega));have Z7:=ah t7;have lM:=ah (aY (aY YB g6 YB.size (by omega)) g7 (by have:=YB.size;have:=g6.size;omega) (by omega));clear Y4 Y5 Y6 Y7 YB t6 t7 g6 g7 nP dP nmP dmP;go_wp2_with fail;go_meet;exact ⟨_,_,HV,Z4,Z5,Z6,Z7,lM⟩
  case rest=>
   obtain ⟨n2,d2,HV,Z4,Z5,Z6,Z7,ZB⟩:=hcut;obtain ⟨w6,rfl⟩:∃x,x=wc:=⟨wc,rfl⟩;clear X0 X4 X5 X6 X7 XB oo He HCC;go_upto_region 6 with fail
   have KS:=ah (show ∀W,aH W b6 88 #[.int .u64 (hw 0 n2),.int .u64 (hw 1 n2),.int .u64 (hw 2 n2),.int .u64 (hw 3 n2),.int .u64 (hw 4 n2),.int .u64 (hw 5 n2)]→aH W (b6+1) 88 #[.int .u64 (hw 0 d2),.int .u64 (hw 1 d2),.int .u64 (hw 2 d2),.int .u64 (hw 3 d2),.int .u64 (hw 4 d2),.int .u64 (hw 5 d2)]→(W.cell? ⟨b6,0,none⟩=some (.int .u64 (hw 0 n2))∧W.cell? ⟨b6,1,none⟩=some (.int .u64 (hw 1 n2))∧W.cell? ⟨b6,2,none⟩=some (.int .u64 (hw 2 n2))∧W.cell? ⟨b6,3,none⟩=some (.int .u64 (hw 3 n2))∧W.cell? ⟨b6,4,none⟩=some (.int .u64 (hw 4 n2))∧W.cell? ⟨b6,5,none⟩=some (.int .u64 (hw 5 n2))∧W.cell? ⟨b6+1,0,none⟩=some (.int .u64 (hw 0 d2))∧W.cell? ⟨b6+1,1,none⟩=some (.int .u64 (hw 1 d2))∧W.cell? ⟨b6+1,2,none⟩=some (.int .u64 (hw 2 d2))∧W.cell? ⟨b6+1,3,none⟩=some (.int .u64 (hw 3 d2))∧W.cell? ⟨b6+1,4,none⟩=some (.int .u64 (hw 4 d2))∧W.cell? ⟨b6+1,5,none⟩=some (.int .u64 (hw 5 d2))) from fun W h k=>by
    obtain ⟨x0,x1,x2,x3,x4,x5⟩:=bJ h;obtain ⟨y0,y1,y2,y3,y4,y5⟩:=bJ k;exact ⟨x0,x1,x2,x3,x4,x5,y0,y1,y2,y3,y4,y5⟩)
   refine wp_region_held_drew (S:=(fun W=>W.cell? ⟨b6,0,none⟩=some (.int .u64 (hw 0 n2))∧W.cell? ⟨b6,1,none⟩=some (.int .u64 (hw 1 n2))∧W.cell? ⟨b6,2,none⟩=some (.int .u64 (hw 2 n2))∧W.cell? ⟨b6,3,none⟩=some (.int .u64 (hw 3 n2))∧W.cell? ⟨b6,4,none⟩=some (.int .u64 (hw 4 n2))∧W.cell? ⟨b6,5,none⟩=some (.int .u64 (hw 5 n2))∧W.cell? ⟨b6+1,0,none⟩=some (.int .u64 (hw 0 d2))∧W.cell? ⟨b6+1,1,none⟩=some (.int .u64 (hw 1 d2))∧W.cell? ⟨b6+1,2,none⟩=some (.int .u64 (hw 2 d2))∧W.cell? ⟨b6+1,3,none⟩=some (.int .u64 (hw 3 d2))∧W.cell? ⟨b6+1,4,none⟩=some (.int .u64 (hw 4 d2))∧W.cell? ⟨b6+1,5,none⟩=some (.int .u64 (hw 5 d2)))) (by kernel_rfl) (by exact KS.out _ Z6.out Z7.out) (fun hHeld=>?_);refine wpAnyH_take (i:=0) (oi:=_) (v:=?_) rfl (by kernel_rfl) (by kernel_rfl) (by kernel_rfl) (fun _ _ _ h=>h) (Or.inl ⟨by rfl,?_⟩) (by assumption) ?_;rotate_left
   ·(intro w hSw;(try dsimp only at hSw);go_simp<;>with_reducible rfl)
   try simp only [Act.put,List.getElem_toArray,List.getElem_cons_zero,List.getElem_cons_succ,List.setIfInBounds_toArray,List.set_cons_zero,List.set_cons_succ]
   refine wpAnyH_take (i:=1) (oi:=_) (v:=?_) rfl (by kernel_rfl) (by kernel_rfl) (by kernel_rfl) (fun _ _ _ h=>h) (Or.inl ⟨by rfl,?_⟩) (by assumption) ?_;rotate_left
   ·(intro w hSw;(try dsimp only at hSw);go_simp<;>with_reducible rfl)
   try simp only [Act.put,List.getElem_toArray,List.getElem_cons_zero,List.getElem_cons_succ,List.setIfInBounds_toArray,List.set_cons_zero,List.set_cons_succ]
   refine wpAnyH_ready (rs:=[2]) (by kernel_rfl) (by simp) (AllReadyH.cons rfl (fun K hK=>?_) AllReadyH.nil);refine yh _ _ _ rfl (w.heap.size+1) rfl rfl (show aH w6.drew _ _ _ from Z4.out) ?_;intro wy t6 g6;have Y5:=(show aH w6.drew _ _ _ from Z5.out).fE g6 (by omega);have z4:=HZ4.out;have Y6:=(show aH w6.drew _ _ _ from Z6.out).fE g6 (by omega);have Y7:=(show aH w6.drew _ _ _ from Z7.out).fE g6 (by omega);refine hK.out _ _ (KS.out _ Y6 Y7) (fun hHeld=>?_);clear hK K;try simp only [Act.put,List.getElem_toArray,List.getElem_cons_zero,List.getElem_cons_succ,List.setIfInBounds_toArray,List.set_cons_zero,List.set_cons_succ]
   refine wpAnyH_ready (rs:=[3]) (by kernel_rfl) (by simp) (AllReadyH.cons rfl (fun K hK=>?_) AllReadyH.nil);refine yh _ _ _ rfl (w.heap.size+2) rfl rfl Y5 ?_;intro wz t7 g7;refine hK.out _ _ (KS.out _ (Y6.fE g7 (by omega)) (Y7.fE g7 (by omega))) (fun hHeld=>?_);clear hK K;try simp only [Act.put,List.getElem_toArray,List.getElem_cons_zero,List.getElem_cons_succ,List.setIfInBounds_toArray,List.set_cons_zero,List.set_cons_succ]
   refine wpAnyH_done (by kernel_rfl) ?_ _;have lM:=ah (aY (aY (show Below w.heap.size w w6.drew from ZB.out.drew) g6 ZB.out.size (by omega)) g7 (by have:=ZB.out.size;have:=g6.size;simp at *;omega) (by omega));obtain ⟨x0,x1,x2,x3,x4,x5⟩:=bJ (t6.fE g7 (by omega));obtain ⟨y0,y1,y2,y3,y4,y5⟩:=bJ t7;clear Y5 Y6 Y7 t6 t7 g6 g7 KS;clear hHeld;go_wp2_with fail;exact bodyPost_ret (v:=.tuple #[.agg #[.int .u64 (hw 0 n2),.int .u64 (hw 1 n2),.int .u64 (hw 2 n2),.int .u64 (hw 3 n2),.int .u64 (hw 4 n2),.int .u64 (hw 5 n2)],.agg #[.int .u64 (hw 0 d2),.int .u64 (hw 1 d2),.int .u64 (hw 2 d2),.int .u64 (hw 3 d2),.int .u64 (hw 4 d2),.int .u64 (hw 5 d2)]]) (by simp [results,Tryz.results39,x0,x1,x2,x3,x4,x5,y0,y1,y2,y3,y4,y5,go_sem]) rfl ⟨by rw [HV.out],lM.out⟩
theorem Bd (fn:FuncId) (p q s:Value) (m:Int) (H:Int→Bool) (w:World) (hm0:0≤m) (hm1:m≤1000000000)
  (hmono:∀a b,0≤a→a≤b→b≤m→H b=true→H a=true)
  (hcf:∀args W,Sem.run Tryz.prog (callFunc fn args) W=.ok (.enter fn args) W)
  (hc:∀k W,0≤k→k≤m→Below w.heap.size w W→Calls Tryz.prog fn #[.int .i64 k,p,q,s] W fun e w'=>e=.returned (.bool (H k))∧Below W.heap.size W w') :
  Calls Tryz.prog 70 #[.int .i64 m,.func (.func fn) #[] #[p,q,s]] w fun e w'=>∃r,e=.returned (.int .i64 r)∧(0≤r∧r≤m)∧(0<r→H r=true)∧(r<m→H (r+1)=false)∧Below w.heap.size w w':=by
 have HC:=ah hc;have HMO:=ah hmono;clear hc hmono;go_enter Tryz.func70,Tryz.ntmps70;go_wp2_with fail;go_loopw [5,6] (fun a b wx=>∃(lo hi:Int),a=.int .i64 lo∧b=.int .i64 hi∧0≤lo∧lo≤hi∧hi≤m∧Hid (0<lo→H lo=true)∧Hid (hi<m→H (hi+1)=false)∧Hid (Below w.heap.size w wx)) (fun a b _=>(intOf b-intOf a).toNat)
 case atStart=>exact ⟨0,m,rfl,rfl,by omega,by omega,by omega,ah (fun h=>absurd h (by omega)),ah (fun h=>absurd h (by omega)),ah (Below.refl _ _)⟩
 case round=>
  obtain ⟨lo,hi,rfl,rfl,h0,h1,h2,HL,HH,HB⟩:=hrel;by_cases hlt:lo<hi
  ·have a1:IntKind.i64.wrap (lo+hi)=lo+hi:=IntWalk.i64_in _ (by omega);have a2:IntKind.i64.wrap (lo+hi+1)=lo+hi+1:=IntWalk.i64_in _ (by omega);have a3:(lo+hi+1).tdiv 2=(lo+hi+1) / 2:=Int.tdiv_eq_ediv_of_nonneg (by omega);obtain ⟨k,hk⟩:∃k,(lo+hi+1) / 2=k:=⟨_,rfl⟩;have hk1:lo<k∧k≤hi:=by omega
   rw [hk] at a3;have a4:IntKind.i64.wrap k=k:=IntWalk.i64_in _ (by omega);have a5:IntKind.i64.wrap (k-1)=k-1:=IntWalk.i64_in _ (by omega);have J3:=ah (HC.out k wr (by omega) (by omega) HB.out);clear hk;cases hHk:H k
   ·rw [hHk] at J3;have HN:=ah (show k-1<m→H (k-1+1)=false from fun _=>by rw [show k-1+1=k by omega];exact hHk);clear hHk;go_wp2_with fail;refine J3.out.mono ?_;rintro e wz ⟨rfl,hb⟩;have qW:=ah (HB.out.trans (hb.mono HB.out.size));clear hb J3;go_wp2_with fail;go_roundw
    case rel=>exact ⟨lo,k-1,rfl,by first | rfl | go_num,by omega,by omega,by omega,HL,HN,qW⟩
    case measure=>simp [intOf];omega
   ·rw [hHk] at J3;have HN:=ah (show 0<k→H k=true from fun _=>hHk);clear hHk;go_wp2_with fail;refine J3.out.mono ?_;rintro e wz ⟨rfl,hb⟩;have qW:=ah (HB.out.trans (hb.mono HB.out.size));clear hb J3;go_wp2_with fail;go_roundw
    case rel=>exact ⟨k,hi,rfl,rfl,by omega,by omega,by omega,HN,HH,qW⟩
    case measure=>simp [intOf];omega
  ·have he:lo=hi:=by omega
   subst he;go_wp2_with fail;go_ret;exact ⟨lo,rfl,⟨h0,h2⟩,HL.out,HH.out,HB.out⟩
end Go.Proofs.YtopmdeefcjdadaaGreat
