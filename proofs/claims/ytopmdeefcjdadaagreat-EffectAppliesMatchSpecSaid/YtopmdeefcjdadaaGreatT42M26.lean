import Derived.Test.YtopmdeefcjdadaaGreatT42M00
import Derived.Test.YtopmdeefcjdadaaGreatT42M17
import Derived.Test.YtopmdeefcjdadaaGreatT42M25
import Derived.Test.YtopmdeefcjdadaaGreatT42M18
import Derived.Test.YtopmdeefcjdadaaGreatT42M14
import Derived.Test.YtopmdeefcjdadaaGreatT42M24
set_option linter.unusedVariables false
set_option linter.unusedSimpArgs false
set_option maxRecDepth 100000
set_option maxHeartbeats 32000000
namespace Go.Proofs.YtopmdeefcjdadaaGreat
open Go.RowKit
theorem bM.wider {B D m n m' n':Nat} {P:Int} {w:World} {v:Value} (h:bM B w v P D m n) (hm:m≤m') (hn:n≤n'):bM B w v P D m' n':=by
 obtain ⟨p,d,q1,q2,q3,q4,q5,q6⟩:=h;exact ⟨p,d,q1,q2,q3,q4,Nat.le_trans q5 (Nat.pow_le_pow_right (by decide) hm),Nat.le_trans q6 (Nat.pow_le_pow_right (by decide) hn)⟩
theorem ten8:(10:Int) ^ 8=100000000:=by decide
theorem LQ (aK low aD aA ay ak aB bP aN aQ t:Int) (aI rel:Bool) (sv kv rv:Value) (w:World) (s0:0≤aB) (s1:aB≤t) (t1:t≤36000000) (i0:0≤bP) (i1:bP≤36000000) (o0:0≤aQ) (o1:aQ≤36000000) (he:aN=-1∨aB≤aN∧aN≤36000000) (hg:aN=-1∨t<aN+aQ) :
  Calls Tryz.prog 47 #[.agg #[.int .i64 aK,.int .i64 low,.int .i64 aD,.int .i64 aA,.int .i64 ay,.int .i64 ak,.bool aI,.bool rel,sv,kv,.int .i64 aB,rv,.int .i64 bP,.int .i64 aN,.int .i64 aQ],.int .i64 t] w (uS (l6 aB bP aN aQ t).1 (l6 aB bP aN aQ t).2.toNat 16 16 w):=by
 have JR:=ah (show l6 aB bP aN aQ t=if aN≠-1∧aN<t then ((if t-aB<bP then t-aB else 1)*(aN+aQ-t),(if t-aB<bP then bP else 1)*aQ) else (if t-aB<bP then t-aB else 1,if t-aB<bP then bP else 1) from rfl);generalize l6 aB bP aN aQ t=SZ at *;obtain ⟨n1,hn1⟩:∃n1,(if t-aB<bP then t-aB else 1)=n1:=⟨_,rfl⟩;obtain ⟨d1,hd1⟩:∃d1,(if t-aB<bP then bP else 1)=d1:=⟨_,rfl⟩;rw [hn1,hd1] at JR
 have He:=ah (show (0≤n1∧n1≤36000000)∧0≤d1∧d1≤36000000 from by
  rw [←hn1,←hd1];by_cases c:t-aB<bP
  ·rw [if_pos c,if_pos c];omega
  ·rw [if_neg c,if_neg c];omega)
 have aw:IntKind.i64.wrap (t-aB)=t-aB:=IntWalk.i64_in _ (by omega);have hge:decide (aN≥0)=decide (aN≠-1):=by congr 1;exact propext ⟨fun h=>by omega,fun h=>by omega⟩
 obtain ⟨w1,hw1⟩:∃w1,w1=((w.alloc (.cells #[.int .i64 aK,.int .i64 low,.int .i64 aD,.int .i64 aA,.int .i64 ay,.int .i64 ak,.bool aI,.bool rel,sv,kv,.int .i64 aB,rv,.int .i64 bP,.int .i64 aN,.int .i64 aQ] 32)).alloc (.cells #[.bool false,.slice none 0 0,.slice none 0 0] 99)):=⟨_,rfl⟩;have T0:=ah (show aH w1 w.heap.size 32 #[.int .i64 aK,.int .i64 low,.int .i64 aD,.int .i64 aA,.int .i64 ay,.int .i64 ak,.bool aI,.bool rel,sv,kv,.int .i64 aB,rv,.int .i64 bP,.int .i64 aN,.int .i64 aQ] from hw1▸(aH.new w _ _).alloc _);have T4:=ah (show AnyQ w1 (w.heap.size+1) from hw1▸⟨_,_,_,_,_,_,_,(by simpa using aH.new (w.alloc (.cells #[.int .i64 aK,.int .i64 low,.int .i64 aD,.int .i64 aA,.int .i64 ay,.int .i64 ak,.bool aI,.bool rel,sv,kv,.int .i64 aB,rv,.int .i64 bP,.int .i64 aN,.int .i64 aQ] 32)) #[.bool false,.slice none 0 0,.slice none 0 0] 99)⟩);have HB1:=ah (show Below w.heap.size w w1 from hw1▸((Below.refl w.heap.size w).alloc (Nat.le_refl _) _).alloc (by simp) _);go_enter Tryz.func47,Tryz.ntmps47;go_upto_region 1 with fail;rw [←hw1];clear hw1;go_wp2_with fail;refine (gZ 1 8 _ (by omega) (by omega) (by decide)).mono ?_;rintro e w2 ⟨v2,rfl,hq,hb⟩;obtain ⟨qs,qa,qL,qc,qb,qM,qd,rfl⟩:=fB hq;obtain ⟨b5,hb5⟩:∃n,w2.heap.size=n:=⟨_,rfl⟩;have U0:=ah ((T0.out.below hb).alloc (.cells #[.bool qs,.slice qa qL qc,.slice qb qM qd] 99));have U4:=ah ((T4.out.below hb).below ((Below.refl _ _).alloc (Nat.le_refl _) (.cells #[.bool qs,.slice qa qL qc,.slice qb qM qd] 99)));have U5:=ah (show gY (w2.alloc (.cells #[.bool qs,.slice qa qL qc,.slice qb qM qd] 99)) b5 1 1 8 0 from ⟨_,_,_,_,_,_,_,hb5▸aH.new w2 _ _,hq.up ((Below.refl _ _).alloc (Nat.le_refl _) _)⟩);have HB2:=ah ((HB1.out.trans (hb.mono HB1.out.size)).alloc (Nat.le_trans HB1.out.size hb.size) (.cells #[.bool qs,.slice qa qL qc,.slice qb qM qd] 99));have HBL:=ah (show w.heap.size+1<b5 by have:=T4.out.lt;have:=hb.size;omega);clear hq hb T0 T4 HB1;go_upto_region 2 with fail;clear hb5;generalize w2.alloc (.cells #[.bool qs,.slice qa qL qc,.slice qb qM qd] 99)=w4 at *;have kS:=U0.out.cell (i:=10) rfl;have nk:=U0.out.cell (i:=12) rfl;have ql:=U0.out.lt;go_upto_if 13 with fail;clear kS nk ql;go_cut [] (fun wx=>Hid (aH wx w.heap.size 32 #[.int .i64 aK,.int .i64 low,.int .i64 aD,.int .i64 aA,.int .i64 ay,.int .i64 ak,.bool aI,.bool rel,sv,kv,.int .i64 aB,rv,.int .i64 bP,.int .i64 aN,.int .i64 aQ])∧Hid (AnyQ wx (w.heap.size+1))∧Hid (gY wx b5 n1 d1.toNat 8 8)∧Hid (Below w.heap.size w wx))
 case first=>
  have kS:=U0.out.cell (i:=10) rfl;have nk:=U0.out.cell (i:=12) rfl;have ql:=U0.out.lt;by_cases hlt:t-aB<bP
  ·rw [if_pos hlt] at hn1 hd1;subst hn1 hd1;go_wp2_with fail;refine (BZ (t-aB) bP 8 8 _ (by omega) (by omega) (by omega) (by omega) (by rw [ten8];omega) (by rw [ten8];omega)).mono ?_;rintro e w5 ⟨v5,rfl,hq,hb⟩;obtain ⟨rs,ra,rL,rc,rb,rM,rd,rfl⟩:=fB hq;have X0:=U0.out.below hb;have X4:=U4.out.below hb;have X5:=U5.out.any.below hb;have XB:=HB2.out.trans (hb.mono HB2.out.size);have hQ:=je X5 hq;have hS:=uD X5 (.bool rs) (.slice ra rL rc) (.slice rb rM rd);have hbl:=HBL.out;have Y0:=ah (X0.fE hS.1 (by omega));have Y4:=ah (X4.wM hS (by omega));have Y5:=ah hQ;have YB:=ah (aY XB hS.1 XB.size (by omega));obtain ⟨es,ea,eL,ec,eb,eM,ed,hx5⟩:=X5;have y0:=hx5.cell (i:=0) rfl;have y1:=hx5.cell (i:=1) rfl;have y2:=hx5.cell (i:=2) rfl;have z0:=hx5.frozen 0;have z1:=hx5.frozen 1;have z2:=hx5.frozen 2;clear hq hb X0 X4 XB hQ hS hx5 kS nk ql hbl;go_wp2_with fail;go_meet;exact ⟨Y0,Y4,Y5,YB⟩
  ·rw [if_neg hlt] at hn1 hd1;subst hn1 hd1
   have Y5:=ah (show gY w4 b5 1 (1:Int).toNat 8 8 by
    obtain ⟨s,ao,L,cap,bo,M,cap2,h1,h2⟩:=U5.out;exact ⟨s,ao,L,cap,bo,M,cap2,h1,bM.wider h2 (by omega) (by omega)⟩)
   go_wp2_with fail;go_meet;exact ⟨U0,U4,Y5,HB2⟩
 case rest=>
  obtain ⟨X0,X4,X5,XB⟩:=hcut;obtain ⟨w5,rfl⟩:∃x,x=wc:=⟨wc,rfl⟩;clear U0 U4 U5 HB2 hn1 hd1;go_upto_region 4 with fail;go_cut [29] (fun c wx=>c=.bool (decide (aN≠-1)&&decide (aN<t))∧w5=wx)
  case first=>
   have ow:=X0.out.cell (i:=13) rfl;have ql:=X0.out.lt;by_cases hte:aN=-1
   ·subst hte;go_wp2_with fail;go_meet;exact ⟨rfl,rfl⟩
   ·have hb1:aN≥0:=by omega
    go_wp2_with fail;go_meet;exact ⟨by simp [hte],rfl⟩
  case rest=>
  obtain ⟨rfl,rfl⟩:=hcut;have oo:=ah (show SZ=if (decide (aN≠-1)&&decide (aN<t))=true then (n1*(aN+aQ-t),d1*aQ) else (n1,d1) by rw [JR.out];by_cases c:aN=-1<;>by_cases d:aN<t<;>simp [c,d]);have HCC:=ah (show (decide (aN≠-1)&&decide (aN<t))=true→0<aN+aQ-t∧aN≤36000000∧0<aQ from fun h=>by simp at h;omega);generalize (decide (aN≠-1)&&decide (aN<t))=CB at *;clear JR hge;go_upto_if 29 with fail;go_cut [] (fun wx=>Hid (AnyQ wx (w.heap.size+1))∧Hid (gY wx b5 SZ.1 SZ.2.toNat 16 16)∧Hid (Below w.heap.size w wx))
  case first=>
   cases CB
   ·have HV:=ah (show SZ=(n1,d1) by rw [oo.out];rfl)
    have Y5:=ah (show gY w5 b5 SZ.1 SZ.2.toNat 16 16 by
     rw [HV.out];obtain ⟨s,ao,L,cap,bo,M,cap2,h1,h2⟩:=X5.out;exact ⟨s,ao,L,cap,bo,M,cap2,h1,bM.wider h2 (by omega) (by omega)⟩)
    go_wp2_with fail;go_meet;exact ⟨X4,Y5,XB⟩
   ·have HV:=ah (show SZ=(n1*(aN+aQ-t),d1*aQ) by rw [oo.out];rfl);obtain ⟨hgt,hte,o2⟩:=HCC.out rfl;have aw1:IntKind.i64.wrap (aN+aQ)=aN+aQ:=IntWalk.i64_in _ (by omega);have aw2:IntKind.i64.wrap (aN+aQ-t)=aN+aQ-t:=IntWalk.i64_in _ (by omega);have m0:0≤aN+aQ-t:=by omega
    have m9:aN+aQ-t≤9223372036854775807:=by omega
    have o9:aQ≤9223372036854775807:=by omega
    have m8:aN+aQ-t≤10 ^ 8:=by rw [ten8];omega
    have o8:aQ≤10 ^ 8:=by rw [ten8];omega
    go_upto_region 5 with fail;refine aX (by kernel_rfl) 12 (by simp) (by kernel_rfl) (by kernel_rfl) (by kernel_rfl) (by kernel_rfl) (fun jx vx wx=>match jx with | 0=>bM wx.heap.size wx (vx) (n1) (d1.toNat) 8 8 | 1=>vx=(.pointer (some ⟨w.heap.size,13,none⟩)) | 2=>vx=(.int .i64 aN) | 3=>vx=(.pointer (some ⟨w.heap.size,14,none⟩)) | 4=>vx=(.int .i64 aQ) | 5=>vx=(.int .i64 (aN+aQ)) | 6=>vx=(.int .i64 t) | 7=>vx=(.int .i64 (aN+aQ-t)) | 8=>vx=(.pointer (some ⟨w.heap.size,14,none⟩)) | 9=>vx=(.int .i64 aQ) | 10=>bM wx.heap.size wx (vx) (aN+aQ-t) (aQ.toNat) 8 8 | 11=>bM wx.heap.size wx (vx) (n1*(aN+aQ-t)) (d1.toNat*aQ.toNat) 16 16 | _=>True) (fun W=>Below w5.heap.size w5 W) (fun wx wy=>Below wx.heap.size wx wy) (Below.refl _ _).drew ?_ ?_ ?_ ?_
    ·intro jx vx wx wy h g
     match jx,h with
     | 0,h | 10,h | 11,h=>exact bM.up h g
     | 1,h | 2,h | 3,h | 4,h | 5,h | 6,h | 7,h | 8,h | 9,h=>exact h
     | jx+12,h=>exact trivial
    ·intro jx ox dx hj ho hd;exact bO (by kernel_rfl) hj ho hd
    ·intro ix ox ax W hi aC hsh hW hpre;have hsz:w5.heap.size≤W.heap.size:=hW.size;have GA:∀ob,Below W.heap.size W (W.alloc ob):=fun ob=>(Below.refl _ _).alloc (Nat.le_refl _) ob;have WA:∀ob,Below w5.heap.size w5 (W.alloc ob):=fun ob=>hW.alloc hsz ob;have t1:ax.tmps[1]?.getD undef=(.int .i64 t):=gT (hsh.2.2 1 (aM (by kernel_rfl)));have t2:ax.tmps[2]?.getD undef=(.pointer (some ⟨w.heap.size,0,none⟩)):=gT (hsh.2.2 2 (aM (by kernel_rfl)));have t5:ax.tmps[5]?.getD undef=(.pointer (some ⟨b5,0,none⟩)):=gT (hsh.2.2 5 (aM (by kernel_rfl)));have ow:=(X0.out.below hW).cell (i:=13) rfl;have ou:=(X0.out.below hW).cell (i:=14) rfl;obtain ⟨LK,NQ,NU,NC,NI,NS,Nv,gJ,jC⟩:=(X5.out.below hW);obtain ⟨AR,AQ,AP⟩:=pG gJ;clear hsh
     match ix,hi,aC with
     | 0,_,aC=>
      cases aC;exact au (w':=W) (by simp [execOp,Act.eval,t5,AR,AQ,AP,go_sem]) ⟨_,rfl,jC,hW,Below.refl _ _⟩
     | 1,_,aC=>
      cases aC;exact au (w':=W) (by simp [execOp,Act.eval,t2,go_sem]) (aS hW)
     | 2,_,aC=>
      cases aC;have f1:=gT (hpre ⟨1,.data⟩ (by simp) (by rfl) _ _ rfl rfl);exact au (w':=W) (by simp [execOp,Act.eval,ow,f1,go_sem]) (aS hW)
     | 3,_,aC=>
      cases aC;exact au (w':=W) (by simp [execOp,Act.eval,t2,go_sem]) (aS hW)
     | 4,_,aC=>
      cases aC;have f3:=gT (hpre ⟨3,.data⟩ (by simp) (by rfl) _ _ rfl rfl);exact au (w':=W) (by simp [execOp,Act.eval,ou,f3,go_sem]) (aS hW)
     | 5,_,aC=>
      cases aC;have f2:=gT (hpre ⟨2,.data⟩ (by simp) (by rfl) _ _ rfl rfl);have f4:=gT (hpre ⟨4,.data⟩ (by simp) (by rfl) _ _ rfl rfl);exact au (w':=W) (by simp [execOp,Act.eval,aw1,f2,f4,go_sem]) (aS hW)
     | 6,_,aC=>
      cases aC;exact au (w':=W) (by simp [execOp,Act.eval,t1,go_sem]) (aS hW)
     | 7,_,aC=>
      cases aC;have f5:=gT (hpre ⟨5,.data⟩ (by simp) (by rfl) _ _ rfl rfl);have f6:=gT (hpre ⟨6,.data⟩ (by simp) (by rfl) _ _ rfl rfl);exact au (w':=W) (by simp [execOp,Act.eval,aw2,f5,f6,go_sem]) (aS hW)
     | 8,_,aC=>
      cases aC;exact au (w':=W) (by simp [execOp,Act.eval,t2,go_sem]) (aS hW)
     | 9,_,aC=>
      cases aC;have f8:=gT (hpre ⟨8,.data⟩ (by simp) (by rfl) _ _ rfl rfl);exact au (w':=W) (by simp [execOp,Act.eval,ou,f8,go_sem]) (aS hW)
     | 10,_,aC=>
      cases aC;have f7:=gT (hpre ⟨7,.data⟩ (by simp) (by rfl) _ _ rfl rfl);have f9:=gT (hpre ⟨9,.data⟩ (by simp) (by rfl) _ _ rfl rfl);refine aG (by simp [execOp,Act.eval,f7,f9,go_sem]) ((BZ (aN+aQ-t) aQ 8 8 W m0 m9 o9 o2 m8 o8).mono ?_);rintro ex wy ⟨vn,rfl,hq,hb⟩;exact ⟨vn,rfl,_,rfl,hq,hW.trans (hb.mono hsz),hb⟩
     | 11,_,aC=>
      cases aC;obtain ⟨v0,f0,r0⟩:=gR (fun v=>bM W.heap.size W v (n1) (d1.toNat) 8 8) (hpre ⟨0,.data⟩ (by simp) (by rfl) _ _ rfl rfl);obtain ⟨v10,f10,r10⟩:=gR (fun v=>bM W.heap.size W v (aN+aQ-t) (aQ.toNat) 8 8) (hpre ⟨10,.data⟩ (by simp) (by rfl) _ _ rfl rfl);refine aG (by simp [execOp,Act.eval,f0,f10,go_sem]) ((uy W.heap.size _ _ 8 8 8 8 _ _ _ _ W (Nat.le_refl _) (by omega) (by omega) r0 r10).mono ?_);rintro ex wy ⟨vn,rfl,hq,hb⟩;exact ⟨vn,rfl,_,rfl,hq,hW.trans (hb.mono hsz),hb⟩
     | ix+12,hi,_=>exact absurd hi (by omega)
    ·intro ax W hsh hW hφ;have q0:bM W.heap.size W (ax.tmps.getD 30 undef) (n1) (d1.toNat) 8 8:=hφ 0 _ _ (by omega) rfl rfl;obtain ⟨v0,e0⟩:∃v,ax.tmps.getD 30 undef=v:=⟨_,rfl⟩;rw [e0] at q0;have Q0:=ah q0;clear q0;have e1:=hφ 1 _ _ (by omega) rfl rfl;have e2:=hφ 2 _ _ (by omega) rfl rfl;have e3:=hφ 3 _ _ (by omega) rfl rfl;have e4:=hφ 4 _ _ (by omega) rfl rfl;have e5:=hφ 5 _ _ (by omega) rfl rfl;have e6:=hφ 6 _ _ (by omega) rfl rfl;have e7:=hφ 7 _ _ (by omega) rfl rfl;have e8:=hφ 8 _ _ (by omega) rfl rfl;have e9:=hφ 9 _ _ (by omega) rfl rfl;have kS:bM W.heap.size W (ax.tmps.getD 40 undef) (aN+aQ-t) (aQ.toNat) 8 8:=hφ 10 _ _ (by omega) rfl rfl;obtain ⟨v10,e10⟩:∃v,ax.tmps.getD 40 undef=v:=⟨_,rfl⟩;rw [e10] at kS;have Q10:=ah kS;clear kS;have l7:bM W.heap.size W (ax.tmps.getD 41 undef) (n1*(aN+aQ-t)) (d1.toNat*aQ.toNat) 16 16:=hφ 11 _ _ (by omega) rfl rfl;obtain ⟨v11,e11⟩:∃v,ax.tmps.getD 41 undef=v:=⟨_,rfl⟩;rw [e11] at l7;have RD:=ah l7;clear l7;rw [bf hsh [(30,_),(31,_),(32,_),(33,_),(34,_),(35,_),(36,_),(37,_),(38,_),(39,_),(40,_),(41,_)] [30,31,32,33,34,35,36,37,38,39,40,41] rfl (by kernel_rfl) ⟨e0,e1,e2,e3,e4,e5,e6,e7,e8,e9,e10,e11,trivial⟩];clear hφ hsh e0 e1 e2 e3 e4 e5 e6 e7 e8 e9 e10 e11;simp only [cB,List.foldl_cons,List.foldl_nil,List.drop_succ_cons,List.drop_zero,Act.put,List.setIfInBounds_toArray,List.set_cons_succ,List.set_cons_zero];have Y4:=X4.out.below hW;have Y5:=X5.out.any.below hW;have YB:=XB.out.trans (hW.mono XB.out.size);have hbl:=HBL.out;clear hW;refine bX W rfl _ _ rfl b5 rfl rfl RD.out Y5 ?_;intro wz QY SY;simp only [Act.put];have Z4:=ah (Y4.wM SY (by omega))
     have Z5:=ah (show gY wz b5 SZ.1 SZ.2.toNat 16 16 by
      rw [HV.out];have e:(d1*aQ).toNat=d1.toNat*aQ.toNat:=Int.toNat_mul (by have:=He.out;omega) o0;simp only [e];exact QY)
     have ZB:=ah (aY YB SY.1 YB.size (by omega));clear Y4 Y5 YB QY SY;go_wp2_with fail;go_meet;exact ⟨Z4,Z5,ZB⟩
  case rest=>
   obtain ⟨Z4,Z5,ZB⟩:=hcut;obtain ⟨w6,rfl⟩:∃x,x=wc:=⟨wc,rfl⟩;clear X0 X4 X5 XB oo HCC He;have hbl:=HBL.out;obtain ⟨ps,pa,pL,pc,pb,pM,pd,hp5,hpr⟩:=Z5.out;have p0:=hp5.cell (i:=0) rfl;have p1:=hp5.cell (i:=1) rfl;have p2:=hp5.cell (i:=2) rfl;have pl:=hp5.lt;have vS:=ah hpr;clear hp5 hpr Z5;obtain ⟨es,ea,eL,ec,eb,eM,ed,hx5⟩:=Z4.out;have y0:=hx5.cell (i:=0) rfl;have y1:=hx5.cell (i:=1) rfl;have y2:=hx5.cell (i:=2) rfl;have z0:=hx5.frozen 0;have z1:=hx5.frozen 1;have z2:=hx5.frozen 2;have hS:=uD Z4.out (.bool ps) (.slice pa pL pc) (.slice pb pM pd);have HR:=ah (hS.2.1 _ _ _ _ _ _ vS.out);have qW:=ah (aY ZB.out hS.1 ZB.out.size (by omega));have HSZ2:=ah hS.2.2;have hxn:=EU hx5 (.bool ps) (.slice pa pL pc) (.slice pb pM pd);have HX0:=ah (hxn.cell (i:=0) rfl);have vY:=ah (hxn.cell (i:=1) rfl);have HX2:=ah (hxn.cell (i:=2) rfl);clear hx5 hS hbl hxn;go_wp2_with fail;refine bodyPost_ret (v:=.agg #[.bool ps,.slice pa pL pc,.slice pb pM pd]) (by have x0:=HX0.out;have x1:=vY.out;have x2:=HX2.out;simp [results,Tryz.results47,go_sem,x0,x1,x2]) rfl ⟨_,rfl,?_,qW.out⟩;rw [HSZ2.out];exact HR.out
structure kP (r:iK) (l:List dM):Prop where
 once:eO l
 levs:Aw r l
 aO:∀s∈l,(nS r s.k).isSome
theorem zT {r:iK} {l:List dM} (h:dF r l=0):kP r l:=⟨F6 h,fun s hs=>(BI h hs).2,fun s hs=>(BI h hs).1⟩
theorem kP.put {r:iK} {l:List dM} (h:kP r l) {s:dM} (h1:0≤s.lv∧s.lv≤65535) (h2:(nS r s.k).isSome):kP r (iR l s):=by
 refine ⟨vG h.once s,I7 h.levs h1,fun y hy=>?_⟩;unfold iR at hy;split at hy
 ·obtain ⟨z,hz,rfl⟩:=List.mem_map.1 hy;split
  ·exact h2
  ·exact h.aO z hz
 ·rcases List.mem_append.1 hy with hy | hy
  ·exact h.aO y hy
  ·simp at hy;subst hy;exact h2
theorem kP.few {r:iK} {l:List dM} (h:kP r l) (hr:bR r=0):l.length≤16000:=Rb hr h.once h.aO
theorem kP.puts {r:iK}:∀(m l:List dM),kP r l→(∀s∈m,(0≤s.lv∧s.lv≤65535)∧(nS r s.k).isSome)→kP r (m.foldl iR l)
 | [],l,h,_=>h
 | s::m,l,h,hm=>kP.puts m _ (h.put (hm s (by simp)).1 (hm s (by simp)).2) (fun x hx=>hm x (by simp [hx]))
theorem uF {r:iK} {x:Run} (h:dV r x=0) {t:Int} {nO:Int×ByteArray→Int} {s:dM} (hs:s∈dQ x t nO):(0≤s.lv∧s.lv≤65535)∧(nS r s.k).isSome:=
 ⟨Io hs,(mK h).2.2.1 _ (xY hs)⟩
theorem xZ {r:iK} {x:Run} (h:dV r x=0) {t:Int} {nO:Int×ByteArray→Int}:(dQ x t nO).length≤400:=by
 have:=(mK h).2.1.2;unfold dQ;split
 ·simp
 ·rw [wN];exact this
theorem xO {r:iK} {t:Int}:∀(xs:List Run) (l:List dM),kP r l→(∀x∈xs,dV r x=0)→kP r (oI r xs l t)
 | [],l,h,_=>h
 | x::xs,l,h,hx=>xO xs _ (kP.puts _ _ h (fun s hs=>uF (hx x (by simp)) hs)) (fun z hz=>hx z (by simp [hz]))
theorem yB (r:iK) (xs:List Run) (l:List dM) (t:Int) (k:Nat) (h:k<xs.length):oI r (xs.take (k+1)) l t=(dQ xs[k] t (qB r (oI r (xs.take k) l t))).foldl iR (oI r (xs.take k) l t):=by
 unfold oI;rw [List.take_succ_eq_append_getElem h,List.foldl_append];rfl
theorem BP (m l:List dM) (j:Nat) (h:j<m.length):(m.take (j+1)).foldl iR l=iR ((m.take j).foldl iR l) m[j]:=by
 rw [List.take_succ_eq_append_getElem h,List.foldl_append];rfl
def Cy (l:List dM) (k:Int×ByteArray):Option Int:=(xL l k).map (fun n=>(n:Int))
theorem Rw {l:List dM} (hl:eO l) {k:Nat} (h:k<l.length) (key:Int×ByteArray):Cy (l.take (k+1)) key=if l[k].k=key then some (k:Int) else Cy (l.take k) key:=by
 have hn:xL (l.take k) l[k].k=none:=by
  rw [sI];intro y hy e;obtain ⟨j,hj,rfl⟩:=List.mem_take_iff_getElem.1 hy;exact (List.pairwise_iff_getElem.1 hl) j k (by simp;omega) (by simpa using h) (by omega) (by rw [List.getElem_map,List.getElem_map];exact e)
 have hk:eO (l.take k):=by unfold eO at *;rw [List.map_take];exact hl.sublist (List.take_sublist _ _)
 have e:l.take (k+1)=iR (l.take k) l[k]:=by rw [rP hn,List.take_succ_eq_append_getElem h]
 unfold Cy;rw [e,Eh hk,hn];by_cases c:l[k].k=key
 ·rw [if_pos c,if_pos c];simp
  omega
 ·rw [if_neg c,if_neg c]
theorem atI_old {l:List dM} (hl:eO l) {s:dM} {i:Nat} (h:xL l s.k=some i) (key:Int×ByteArray):Cy (iR l s) key=Cy l key:=by
 unfold Cy;rw [Eh hl,h];by_cases c:s.k=key
 ·rw [if_pos c,←c,h];rfl
 ·rw [if_neg c]
theorem atI_new {l:List dM} (hl:eO l) {s:dM} (h:xL l s.k=none) (key:Int×ByteArray):Cy (iR l s) key=if s.k=key then some (l.length:Int) else Cy l key:=by
 unfold Cy;rw [Eh hl,h];by_cases c:s.k=key
 ·rw [if_pos c,if_pos c];simp
 ·rw [if_neg c,if_neg c]
theorem Ph {l:List dM} {s:dM}:(l++[s]).set l.length s=l++[s]:=by
 rw [List.set_append];simp
def I5 (l:List dM) (n:Int) (nm:ByteArray) (df:Int):Int:=((l.find? (isK (n,nm))).map dM.lv).getD df
def Dk (rel:Bool) (low aD b wn wd:Int):Int:=if rel then 2*wd*b+2*(aD-low)*wn-(aD-low)*wd else 2*(wd*low+wn*(aD-low))
theorem QZ {b wd sn sd X V Dv Pf Df:Int} (hV:V*(2*wd)=X*Dv) (hP:Pf=b*(Dv*sd)+(V-b*Dv)*sn) (hD:Df=Dv*sd) :
  Pf*(2*(wd*sd))=(2*(wd*sd)*b+sn*(X-2*wd*b))*Df:=by
 subst hP hD;have e:(b*(Dv*sd)+(V-b*Dv)*sn)*(2*(wd*sd))=b*(Dv*sd)*(2*(wd*sd))+(V*(2*wd))*(sn*sd)-b*Dv*sn*(2*(wd*sd)):=by grind
 rw [e,hV];grind
theorem x2_mov (rel:Bool) (low aD b:Int) (wn wd sn sd:Int):2*(wd*sd)*b+sn*(Dk rel low aD b wn wd-2*wd*b)+wd*sd=FY rel low aD b (wn,wd) (sn,sd):=by
 cases rel
 ·simp only [Dk,FY,Bool.false_eq_true,if_false];grind
 ·simp only [Dk,FY,if_true];grind
theorem qy {a b A B:Int} (h1:0≤a) (h2:0≤b) (h3:a≤A) (h4:b≤B):0≤a*b∧a*b≤A*B:=dJ h1 h2 h3 h4
theorem Oy {rel:Bool} {low aD b wn wd sn sd:Int} (l0:0≤low) (l1:low≤aD) (h1:aD≤65535) (b0:0≤b) (b1:b≤65535) (hw:lW (wn,wd)) (hs:Ar (sn,sd)) :
  -(1000000*(wd*sd))≤2*(wd*sd)*b+sn*(Dk rel low aD b wn wd-2*wd*b)∧2*(wd*sd)*b+sn*(Dk rel low aD b wn wd-2*wd*b)≤1000000*(wd*sd):=by
 obtain ⟨a0,a1,a2,_⟩:=hw;obtain ⟨c0,c1,c2,_⟩:=hs;simp only at a0 a1 a2 c0 c1 c2;obtain ⟨u0,u1⟩:=qy (a:=wd) (b:=sn) (A:=wd) (B:=sd) (by omega) c0 (Int.le_refl _) c1;obtain ⟨v0,v1⟩:=qy (a:=wn) (b:=sn) (A:=wd) (B:=sn) a0 c0 a1 (Int.le_refl _);have q1:1*1≤wd*sd:=Int.mul_le_mul a2 c2 (by omega) (by omega);obtain ⟨qb0,qb1⟩:=qy (a:=wd*sd) (b:=b) (A:=wd*sd) (B:=65535) (by omega) b0 (Int.le_refl _) b1;obtain ⟨ub0,ub1⟩:=qy (a:=wd*sn) (b:=b) (A:=wd*sd) (B:=65535) u0 b0 u1 b1;obtain ⟨ul0,ul1⟩:=qy (a:=wd*sn) (b:=low) (A:=wd*sd) (B:=65535) u0 l0 u1 (by omega);obtain ⟨vs0,vs1⟩:=qy (a:=wn*sn) (b:=aD-low) (A:=wd*sd) (B:=65535) v0 (by omega) (by omega) (by omega);obtain ⟨us0,us1⟩:=qy (a:=wd*sn) (b:=aD-low) (A:=wd*sd) (B:=65535) u0 (by omega) u1 (by omega);cases rel
 ·have e:2*(wd*sd)*b+sn*(Dk false low aD b wn wd-2*wd*b)=2*(wd*sd*b)+2*(wd*sn*low)+2*(wn*sn*(aD-low))-2*(wd*sn*b):=by
   simp only [Dk,Bool.false_eq_true,if_false];grind
  rw [e];omega
 ·have e:2*(wd*sd)*b+sn*(Dk true low aD b wn wd-2*wd*b)=2*(wd*sd*b)+2*(wn*sn*(aD-low))-wd*sn*(aD-low):=by
   simp only [Dk,if_true];grind
  rw [e];omega
theorem Ma {P:Int} {D:Nat} {X Q:Int} (hD:0<D) (hQ:0<Q) (he:P*Q=X*(D:Int)) (h1:-(1000000*Q)≤X) (h2:X≤1000000*Q):(P*2+(D:Int)).natAbs / (D*2)≤4611686018427387904:=by
 have k1:-(1000000*(D:Int))≤P:=by
  have:-(1000000*(D:Int))*Q≤P*Q:=by
   rw [he];have:=Int.mul_le_mul_of_nonneg_right h1 (show (0:Int)≤(D:Int) by omega);have e:-(1000000*(D:Int))*Q=-(1000000*Q)*(D:Int):=by grind
   rw [e];exact this
  exact Int.le_of_mul_le_mul_right this hQ
 have k2:P≤1000000*(D:Int):=by
  have:P*Q≤1000000*(D:Int)*Q:=by
   rw [he];have:=Int.mul_le_mul_of_nonneg_right h2 (show (0:Int)≤(D:Int) by omega);have e:1000000*(D:Int)*Q=1000000*Q*(D:Int):=by grind
   rw [e];exact this
  exact Int.le_of_mul_le_mul_right this hQ
 have k3:(P*2+(D:Int)).natAbs≤2000001*D:=by omega
 have k4:2000001*D≤4611686018427387904*(D*2):=by omega
 exact Nat.div_le_of_le_mul (by rw [Nat.mul_comm];omega)
theorem MN {rel:Bool} {low aD b wn wd sn sd V Pf:Int} {Dv Df:Nat} (hwd:0<wd) (hsd:0<sd) (hDv:0<Dv) (hV:V*(2*wd)=Dk rel low aD b wn wd*(Dv:Int)) (hP:Pf=b*((Dv:Int)*sd)+(V-b*(Dv:Int))*sn) (hD:(Df:Int)=(Dv:Int)*sd) :
  sD (AY Pf Df)=tT rel low aD b (wn,wd) (sn,sd):=by
 have he:=QZ hV hP hD;have hq:0<wd*sd:=Int.mul_pos hwd hsd
 have hDf:0<Df:=by
  have:(0:Int)<(Dv:Int)*sd:=Int.mul_pos (by omega) hsd;omega
 unfold tT;congr 1
 rw [←x2_mov];generalize 2*(wd*sd)*b+sn*(Dk rel low aD b wn wd-2*wd*b)=X at *;show (Pf*2+(Df:Int)) / ((Df*2:Nat):Int)=(X+wd*sd) / (2*(wd*sd));obtain ⟨q,hqq⟩:∃q:Nat,wd*sd=(q:Int):=⟨(wd*sd).toNat,by omega⟩;rw [hqq] at he hq ⊢
 have e2:(Pf*2+(Df:Int))*((2*q:Nat):Int)=(X+(q:Int))*((Df*2:Nat):Int):=by
  push_cast;have:(Pf*2+(Df:Int))*(2*(q:Int))=2*(Pf*(2*(q:Int)))+(Df:Int)*(2*(q:Int)):=by grind
  rw [this,he];grind
 have:=yQ (q:=Pf*2+(Df:Int)) (g:=Df*2) (P:=X+(q:Int)) (D:=2*q) (by omega) (by omega) e2;rw [this];push_cast;rfl
theorem Nj {l:List dM} (h:eO l) (k:Int×ByteArray):l.reverse.find? (isK k)=l.find? (isK k):=by
 cases h1:l.find? (isK k) with
 | none=>
  rw [List.find?_eq_none] at h1 ⊢;intro x hx;exact h1 x (List.mem_reverse.1 hx)
 | some s=>
  cases h2:l.reverse.find? (isK k) with
  | none=>
   rw [List.find?_eq_none] at h2;exact absurd (List.find?_some h1) (h2 s (List.mem_reverse.2 (List.mem_of_find?_eq_some h1)))
  | some u=>
   have a1:=List.mem_of_find?_eq_some h1;have a2:=List.mem_reverse.1 (List.mem_of_find?_eq_some h2);have k1:=iW.1 (List.find?_some h1);have k2:=iW.1 (List.find?_some h2);obtain ⟨i,hi,rfl⟩:=List.getElem_of_mem a1;obtain ⟨j,hj,rfl⟩:=List.getElem_of_mem a2;have hn:=List.pairwise_iff_getElem.1 h;by_cases e:i=j
   ·subst e;rfl
   ·exfalso;rcases Nat.lt_or_gt_of_ne e with e | e
    ·exact hn i j (by simpa using hi) (by simpa using hj) e (by rw [List.getElem_map,List.getElem_map,k1,k2])
    ·exact hn j i (by simpa using hj) (by simpa using hi) e (by rw [List.getElem_map,List.getElem_map,k1,k2])
def tV (r:iK) (l:List dM) (k:Int×ByteArray):Int:=I5 l k.1 k.2 ((nS r k).getD 0)
theorem levI_eq {r:iK} {l:List dM} (h:eO l) (k:Int×ByteArray):tV r l k=qB r l k:=by
 unfold tV I5 qB oD;rw [Nj h];have:(k.1,k.2)=k:=rfl;rw [this]
 cases l.find? (isK k) with
 | none=>rfl
 | some s=>rfl
theorem Dp (x:Run) (t:Int) (f g:Int×ByteArray→Int) (h:∀k∈x.aO,f k=g k):dQ x t f=dQ x t g:=by
 unfold dQ;split
 ·rfl
 ·unfold ng;apply List.ext_getElem (by simp);intro i h1 h2;simp only [List.length_mapIdx] at h1;simp only [List.getElem_mapIdx];unfold zn;rw [h _ (List.getElem_mem h1)]
end Go.Proofs.YtopmdeefcjdadaaGreat
