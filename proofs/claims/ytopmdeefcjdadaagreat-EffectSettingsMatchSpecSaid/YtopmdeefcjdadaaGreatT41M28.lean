import Derived.Test.YtopmdeefcjdadaaGreatT41M00
import Derived.Test.YtopmdeefcjdadaaGreatT41M19
import Derived.Test.YtopmdeefcjdadaaGreatT41M27
import Derived.Test.YtopmdeefcjdadaaGreatT41M15
import Derived.Test.YtopmdeefcjdadaaGreatT41M26
set_option linter.unusedVariables false
set_option linter.unusedSimpArgs false
set_option maxRecDepth 100000
set_option maxHeartbeats 32000000
namespace Go.Proofs.YtopmdeefcjdadaaGreat
open Go.RowKit
theorem bJ.wider {B D m n m' n':Nat} {P:Int} {w:World} {v:Value} (h:bJ B w v P D m n) (hm:m≤m') (hn:n≤n'):bJ B w v P D m' n':=by
 obtain ⟨p,d,q1,q2,q3,q4,q5,q6⟩:=h;exact ⟨p,d,q1,q2,q3,q4,Nat.le_trans q5 (Nat.pow_le_pow_right (by decide) hm),Nat.le_trans q6 (Nat.pow_le_pow_right (by decide) hn)⟩
theorem ten8:(10:Int) ^ 8=100000000:=by decide
theorem J7 (aJ low aC ay av ak aA bO aM aO t:Int) (aH rel:Bool) (sv kv rv:Value) (w:World) (s0:0≤aA) (s1:aA≤t) (t1:t≤36000000) (i0:0≤bO) (i1:bO≤36000000) (o0:0≤aO) (o1:aO≤36000000) (he:aM=-1∨aA≤aM∧aM≤36000000) (hg:aM=-1∨t<aM+aO) :
  Calls Tryz.prog 47 #[.agg #[.int .i64 aJ,.int .i64 low,.int .i64 aC,.int .i64 ay,.int .i64 av,.int .i64 ak,.bool aH,.bool rel,sv,kv,.int .i64 aA,rv,.int .i64 bO,.int .i64 aM,.int .i64 aO],.int .i64 t] w (tX (lM aA bO aM aO t).1 (lM aA bO aM aO t).2.toNat 16 16 w):=by
 have HSZ:=ah (show lM aA bO aM aO t=if aM≠-1∧aM<t then ((if t-aA<bO then t-aA else 1)*(aM+aO-t),(if t-aA<bO then bO else 1)*aO) else (if t-aA<bO then t-aA else 1,if t-aA<bO then bO else 1) from rfl);generalize lM aA bO aM aO t=SZ at *;obtain ⟨n1,hn1⟩:∃n1,(if t-aA<bO then t-aA else 1)=n1:=⟨_,rfl⟩;obtain ⟨d1,hd1⟩:∃d1,(if t-aA<bO then bO else 1)=d1:=⟨_,rfl⟩;rw [hn1,hd1] at HSZ
 have FX:=ah (show (0≤n1∧n1≤36000000)∧0≤d1∧d1≤36000000 from by
  rw [←hn1,←hd1];by_cases c:t-aA<bO
  ·rw [if_pos c,if_pos c];omega
  ·rw [if_neg c,if_neg c];omega)
 have aw:IntKind.i64.wrap (t-aA)=t-aA:=IntWalk.i64_in _ (by omega);have hge:decide (aM≥0)=decide (aM≠-1):=by congr 1;exact propext ⟨fun h=>by omega,fun h=>by omega⟩
 obtain ⟨w1,hw1⟩:∃w1,w1=((w.alloc (.cells #[.int .i64 aJ,.int .i64 low,.int .i64 aC,.int .i64 ay,.int .i64 av,.int .i64 ak,.bool aH,.bool rel,sv,kv,.int .i64 aA,rv,.int .i64 bO,.int .i64 aM,.int .i64 aO] 32)).alloc (.cells #[.bool false,.slice none 0 0,.slice none 0 0] 99)):=⟨_,rfl⟩;have T0:=ah (show aG w1 w.heap.size 32 #[.int .i64 aJ,.int .i64 low,.int .i64 aC,.int .i64 ay,.int .i64 av,.int .i64 ak,.bool aH,.bool rel,sv,kv,.int .i64 aA,rv,.int .i64 bO,.int .i64 aM,.int .i64 aO] from hw1▸(aG.new w _ _).alloc _);have T4:=ah (show AnyQ w1 (w.heap.size+1) from hw1▸⟨_,_,_,_,_,_,_,(by simpa using aG.new (w.alloc (.cells #[.int .i64 aJ,.int .i64 low,.int .i64 aC,.int .i64 ay,.int .i64 av,.int .i64 ak,.bool aH,.bool rel,sv,kv,.int .i64 aA,rv,.int .i64 bO,.int .i64 aM,.int .i64 aO] 32)) #[.bool false,.slice none 0 0,.slice none 0 0] 99)⟩);have HB1:=ah (show Below w.heap.size w w1 from hw1▸((Below.refl w.heap.size w).alloc (Nat.le_refl _) _).alloc (by simp) _);go_enter Tryz.func47,Tryz.ntmps47;go_upto_region 1 with fail;rw [←hw1];clear hw1;go_wp2_with fail;refine (gP 1 8 _ (by omega) (by omega) (by decide)).mono ?_;rintro e w2 ⟨v2,rfl,hq,hb⟩;obtain ⟨qs,qa,qL,qc,qb,qM,qd,rfl⟩:=eU hq;obtain ⟨b5,hb5⟩:∃n,w2.heap.size=n:=⟨_,rfl⟩;have U0:=ah ((T0.out.below hb).alloc (.cells #[.bool qs,.slice qa qL qc,.slice qb qM qd] 99));have U4:=ah ((T4.out.below hb).below ((Below.refl _ _).alloc (Nat.le_refl _) (.cells #[.bool qs,.slice qa qL qc,.slice qb qM qd] 99)));have U5:=ah (show gN (w2.alloc (.cells #[.bool qs,.slice qa qL qc,.slice qb qM qd] 99)) b5 1 1 8 0 from ⟨_,_,_,_,_,_,_,hb5▸aG.new w2 _ _,hq.up ((Below.refl _ _).alloc (Nat.le_refl _) _)⟩);have HB2:=ah ((HB1.out.trans (hb.mono HB1.out.size)).alloc (Nat.le_trans HB1.out.size hb.size) (.cells #[.bool qs,.slice qa qL qc,.slice qb qM qd] 99));have HBL:=ah (show w.heap.size+1<b5 by have:=T4.out.lt;have:=hb.size;omega);clear hq hb T0 T4 HB1;go_upto_region 2 with fail;clear hb5;generalize w2.alloc (.cells #[.bool qs,.slice qa qL qc,.slice qb qM qd] 99)=w4 at *;have jH:=U0.out.cell (i:=10) rfl;have lu:=U0.out.cell (i:=12) rfl;have ql:=U0.out.lt;go_upto_if 13 with fail;clear jH lu ql;go_cut [] (fun wx=>Hid (aG wx w.heap.size 32 #[.int .i64 aJ,.int .i64 low,.int .i64 aC,.int .i64 ay,.int .i64 av,.int .i64 ak,.bool aH,.bool rel,sv,kv,.int .i64 aA,rv,.int .i64 bO,.int .i64 aM,.int .i64 aO])∧Hid (AnyQ wx (w.heap.size+1))∧Hid (gN wx b5 n1 d1.toNat 8 8)∧Hid (Below w.heap.size w wx))
 case first=>
  have jH:=U0.out.cell (i:=10) rfl;have lu:=U0.out.cell (i:=12) rfl;have ql:=U0.out.lt;by_cases hlt:t-aA<bO
  ·rw [if_pos hlt] at hn1 hd1;subst hn1 hd1;go_wp2_with fail;refine (AV (t-aA) bO 8 8 _ (by omega) (by omega) (by omega) (by omega) (by rw [ten8];omega) (by rw [ten8];omega)).mono ?_;rintro e w5 ⟨v5,rfl,hq,hb⟩;obtain ⟨rs,ra,rL,rc,rb,rM,rd,rfl⟩:=eU hq;have X0:=U0.out.below hb;have X4:=U4.out.below hb;have X5:=U5.out.any.below hb;have XB:=HB2.out.trans (hb.mono HB2.out.size);have hQ:=iQ X5 hq;have hS:=tC X5 (.bool rs) (.slice ra rL rc) (.slice rb rM rd);have hbl:=HBL.out;have Y0:=ah (X0.fK hS.1 (by omega));have Y4:=ah (X4.vv hS (by omega));have Y5:=ah hQ;have YB:=ah (aX XB hS.1 XB.size (by omega));obtain ⟨es,ea,eL,ec,eb,eM,ed,hx5⟩:=X5;have y0:=hx5.cell (i:=0) rfl;have y1:=hx5.cell (i:=1) rfl;have y2:=hx5.cell (i:=2) rfl;have z0:=hx5.frozen 0;have z1:=hx5.frozen 1;have z2:=hx5.frozen 2;clear hq hb X0 X4 XB hQ hS hx5 jH lu ql hbl;go_wp2_with fail;go_meet;exact ⟨Y0,Y4,Y5,YB⟩
  ·rw [if_neg hlt] at hn1 hd1;subst hn1 hd1
   have Y5:=ah (show gN w4 b5 1 (1:Int).toNat 8 8 by
    obtain ⟨s,ao,L,cap,bo,M,cap2,h1,h2⟩:=U5.out;exact ⟨s,ao,L,cap,bo,M,cap2,h1,bJ.wider h2 (by omega) (by omega)⟩)
   go_wp2_with fail;go_meet;exact ⟨U0,U4,Y5,HB2⟩
 case rest=>
  obtain ⟨X0,X4,X5,XB⟩:=hcut;obtain ⟨w5,rfl⟩:∃x,x=wc:=⟨wc,rfl⟩;clear U0 U4 U5 HB2 hn1 hd1;go_upto_region 4 with fail;go_cut [29] (fun c wx=>c=.bool (decide (aM≠-1)&&decide (aM<t))∧w5=wx)
  case first=>
   have lY:=X0.out.cell (i:=13) rfl;have ql:=X0.out.lt;by_cases hte:aM=-1
   ·subst hte;go_wp2_with fail;go_meet;exact ⟨rfl,rfl⟩
   ·have hb1:aM≥0:=by omega
    go_wp2_with fail;go_meet;exact ⟨by simp [hte],rfl⟩
  case rest=>
  obtain ⟨rfl,rfl⟩:=hcut;have wM:=ah (show SZ=if (decide (aM≠-1)&&decide (aM<t))=true then (n1*(aM+aO-t),d1*aO) else (n1,d1) by rw [HSZ.out];by_cases c:aM=-1<;>by_cases d:aM<t<;>simp [c,d]);have HCC:=ah (show (decide (aM≠-1)&&decide (aM<t))=true→0<aM+aO-t∧aM≤36000000∧0<aO from fun h=>by simp at h;omega);generalize (decide (aM≠-1)&&decide (aM<t))=CB at *;clear HSZ hge;go_upto_if 29 with fail;go_cut [] (fun wx=>Hid (AnyQ wx (w.heap.size+1))∧Hid (gN wx b5 SZ.1 SZ.2.toNat 16 16)∧Hid (Below w.heap.size w wx))
  case first=>
   cases CB
   ·have HV:=ah (show SZ=(n1,d1) by rw [wM.out];rfl)
    have Y5:=ah (show gN w5 b5 SZ.1 SZ.2.toNat 16 16 by
     rw [HV.out];obtain ⟨s,ao,L,cap,bo,M,cap2,h1,h2⟩:=X5.out;exact ⟨s,ao,L,cap,bo,M,cap2,h1,bJ.wider h2 (by omega) (by omega)⟩)
    go_wp2_with fail;go_meet;exact ⟨X4,Y5,XB⟩
   ·have HV:=ah (show SZ=(n1*(aM+aO-t),d1*aO) by rw [wM.out];rfl);obtain ⟨hgt,hte,o2⟩:=HCC.out rfl;have aw1:IntKind.i64.wrap (aM+aO)=aM+aO:=IntWalk.i64_in _ (by omega);have aw2:IntKind.i64.wrap (aM+aO-t)=aM+aO-t:=IntWalk.i64_in _ (by omega);have m0:0≤aM+aO-t:=by omega
    have m9:aM+aO-t≤9223372036854775807:=by omega
    have o9:aO≤9223372036854775807:=by omega
    have m8:aM+aO-t≤10 ^ 8:=by rw [ten8];omega
    have o8:aO≤10 ^ 8:=by rw [ten8];omega
    go_upto_region 5 with fail;refine aV (by kernel_rfl) 12 (by simp) (by kernel_rfl) (by kernel_rfl) (by kernel_rfl) (by kernel_rfl) (fun jx vx wx=>match jx with | 0=>bJ wx.heap.size wx (vx) (n1) (d1.toNat) 8 8 | 1=>vx=(.pointer (some ⟨w.heap.size,13,none⟩)) | 2=>vx=(.int .i64 aM) | 3=>vx=(.pointer (some ⟨w.heap.size,14,none⟩)) | 4=>vx=(.int .i64 aO) | 5=>vx=(.int .i64 (aM+aO)) | 6=>vx=(.int .i64 t) | 7=>vx=(.int .i64 (aM+aO-t)) | 8=>vx=(.pointer (some ⟨w.heap.size,14,none⟩)) | 9=>vx=(.int .i64 aO) | 10=>bJ wx.heap.size wx (vx) (aM+aO-t) (aO.toNat) 8 8 | 11=>bJ wx.heap.size wx (vx) (n1*(aM+aO-t)) (d1.toNat*aO.toNat) 16 16 | _=>True) (fun W=>Below w5.heap.size w5 W) (fun wx wy=>Below wx.heap.size wx wy) (Below.refl _ _).drew ?_ ?_ ?_ ?_
    ·intro jx vx wx wy h g
     match jx,h with
     | 0,h | 10,h | 11,h=>exact bJ.up h g
     | 1,h | 2,h | 3,h | 4,h | 5,h | 6,h | 7,h | 8,h | 9,h=>exact h
     | jx+12,h=>exact trivial
    ·intro jx ox dx hj ho hd;exact bN (by kernel_rfl) hj ho hd
    ·intro ix ox ax W hi aB hsh hW hpre;have hsz:w5.heap.size≤W.heap.size:=hW.size;have GA:∀ob,Below W.heap.size W (W.alloc ob):=fun ob=>(Below.refl _ _).alloc (Nat.le_refl _) ob;have WA:∀ob,Below w5.heap.size w5 (W.alloc ob):=fun ob=>hW.alloc hsz ob;have t1:ax.tmps[1]?.getD undef=(.int .i64 t):=gT (hsh.2.2 1 (aL (by kernel_rfl)));have t2:ax.tmps[2]?.getD undef=(.pointer (some ⟨w.heap.size,0,none⟩)):=gT (hsh.2.2 2 (aL (by kernel_rfl)));have t5:ax.tmps[5]?.getD undef=(.pointer (some ⟨b5,0,none⟩)):=gT (hsh.2.2 5 (aL (by kernel_rfl)));have lY:=(X0.out.below hW).cell (i:=13) rfl;have lX:=(X0.out.below hW).cell (i:=14) rfl;obtain ⟨J3,Mq,Mv,Md,Mh,Ms,LY,fU,jo⟩:=(X5.out.below hW);obtain ⟨zQ,zP,zO⟩:=oG fU;clear hsh
     match ix,hi,aB with
     | 0,_,aB=>
      cases aB;exact au (w':=W) (by simp [execOp,Act.eval,t5,zQ,zP,zO,go_sem]) ⟨_,rfl,jo,hW,Below.refl _ _⟩
     | 1,_,aB=>
      cases aB;exact au (w':=W) (by simp [execOp,Act.eval,t2,go_sem]) (aR hW)
     | 2,_,aB=>
      cases aB;have f1:=gT (hpre ⟨1,.data⟩ (by simp) (by rfl) _ _ rfl rfl);exact au (w':=W) (by simp [execOp,Act.eval,lY,f1,go_sem]) (aR hW)
     | 3,_,aB=>
      cases aB;exact au (w':=W) (by simp [execOp,Act.eval,t2,go_sem]) (aR hW)
     | 4,_,aB=>
      cases aB;have f3:=gT (hpre ⟨3,.data⟩ (by simp) (by rfl) _ _ rfl rfl);exact au (w':=W) (by simp [execOp,Act.eval,lX,f3,go_sem]) (aR hW)
     | 5,_,aB=>
      cases aB;have f2:=gT (hpre ⟨2,.data⟩ (by simp) (by rfl) _ _ rfl rfl);have f4:=gT (hpre ⟨4,.data⟩ (by simp) (by rfl) _ _ rfl rfl);exact au (w':=W) (by simp [execOp,Act.eval,aw1,f2,f4,go_sem]) (aR hW)
     | 6,_,aB=>
      cases aB;exact au (w':=W) (by simp [execOp,Act.eval,t1,go_sem]) (aR hW)
     | 7,_,aB=>
      cases aB;have f5:=gT (hpre ⟨5,.data⟩ (by simp) (by rfl) _ _ rfl rfl);have f6:=gT (hpre ⟨6,.data⟩ (by simp) (by rfl) _ _ rfl rfl);exact au (w':=W) (by simp [execOp,Act.eval,aw2,f5,f6,go_sem]) (aR hW)
     | 8,_,aB=>
      cases aB;exact au (w':=W) (by simp [execOp,Act.eval,t2,go_sem]) (aR hW)
     | 9,_,aB=>
      cases aB;have f8:=gT (hpre ⟨8,.data⟩ (by simp) (by rfl) _ _ rfl rfl);exact au (w':=W) (by simp [execOp,Act.eval,lX,f8,go_sem]) (aR hW)
     | 10,_,aB=>
      cases aB;have f7:=gT (hpre ⟨7,.data⟩ (by simp) (by rfl) _ _ rfl rfl);have f9:=gT (hpre ⟨9,.data⟩ (by simp) (by rfl) _ _ rfl rfl);refine aF (by simp [execOp,Act.eval,f7,f9,go_sem]) ((AV (aM+aO-t) aO 8 8 W m0 m9 o9 o2 m8 o8).mono ?_);rintro ex wy ⟨vn,rfl,hq,hb⟩;exact ⟨vn,rfl,_,rfl,hq,hW.trans (hb.mono hsz),hb⟩
     | 11,_,aB=>
      cases aB;obtain ⟨v0,f0,r0⟩:=gR (fun v=>bJ W.heap.size W v (n1) (d1.toNat) 8 8) (hpre ⟨0,.data⟩ (by simp) (by rfl) _ _ rfl rfl);obtain ⟨v10,f10,r10⟩:=gR (fun v=>bJ W.heap.size W v (aM+aO-t) (aO.toNat) 8 8) (hpre ⟨10,.data⟩ (by simp) (by rfl) _ _ rfl rfl);refine aF (by simp [execOp,Act.eval,f0,f10,go_sem]) ((sZ W.heap.size _ _ 8 8 8 8 _ _ _ _ W (Nat.le_refl _) (by omega) (by omega) r0 r10).mono ?_);rintro ex wy ⟨vn,rfl,hq,hb⟩;exact ⟨vn,rfl,_,rfl,hq,hW.trans (hb.mono hsz),hb⟩
     | ix+12,hi,_=>exact absurd hi (by omega)
    ·intro ax W hsh hW hφ;have q0:bJ W.heap.size W (ax.tmps.getD 30 undef) (n1) (d1.toNat) 8 8:=hφ 0 _ _ (by omega) rfl rfl;obtain ⟨v0,e0⟩:∃v,ax.tmps.getD 30 undef=v:=⟨_,rfl⟩;rw [e0] at q0;have Q0:=ah q0;clear q0;have e1:=hφ 1 _ _ (by omega) rfl rfl;have e2:=hφ 2 _ _ (by omega) rfl rfl;have e3:=hφ 3 _ _ (by omega) rfl rfl;have e4:=hφ 4 _ _ (by omega) rfl rfl;have e5:=hφ 5 _ _ (by omega) rfl rfl;have e6:=hφ 6 _ _ (by omega) rfl rfl;have e7:=hφ 7 _ _ (by omega) rfl rfl;have e8:=hφ 8 _ _ (by omega) rfl rfl;have e9:=hφ 9 _ _ (by omega) rfl rfl;have jH:bJ W.heap.size W (ax.tmps.getD 40 undef) (aM+aO-t) (aO.toNat) 8 8:=hφ 10 _ _ (by omega) rfl rfl;obtain ⟨v10,e10⟩:∃v,ax.tmps.getD 40 undef=v:=⟨_,rfl⟩;rw [e10] at jH;have Q10:=ah jH;clear jH;have kJ:bJ W.heap.size W (ax.tmps.getD 41 undef) (n1*(aM+aO-t)) (d1.toNat*aO.toNat) 16 16:=hφ 11 _ _ (by omega) rfl rfl;obtain ⟨v11,e11⟩:∃v,ax.tmps.getD 41 undef=v:=⟨_,rfl⟩;rw [e11] at kJ;have PW:=ah kJ;clear kJ;rw [aZ hsh [(30,_),(31,_),(32,_),(33,_),(34,_),(35,_),(36,_),(37,_),(38,_),(39,_),(40,_),(41,_)] [30,31,32,33,34,35,36,37,38,39,40,41] rfl (by kernel_rfl) ⟨e0,e1,e2,e3,e4,e5,e6,e7,e8,e9,e10,e11,trivial⟩];clear hφ hsh e0 e1 e2 e3 e4 e5 e6 e7 e8 e9 e10 e11;simp only [bZ,List.foldl_cons,List.foldl_nil,List.drop_succ_cons,List.drop_zero,Act.put,List.setIfInBounds_toArray,List.set_cons_succ,List.set_cons_zero];have Y4:=X4.out.below hW;have Y5:=X5.out.any.below hW;have YB:=XB.out.trans (hW.mono XB.out.size);have hbl:=HBL.out;clear hW;refine bV W rfl _ _ rfl b5 rfl rfl PW.out Y5 ?_;intro wz QY SY;simp only [Act.put];have Z4:=ah (Y4.vv SY (by omega))
     have Z5:=ah (show gN wz b5 SZ.1 SZ.2.toNat 16 16 by
      rw [HV.out];have e:(d1*aO).toNat=d1.toNat*aO.toNat:=Int.toNat_mul (by have:=FX.out;omega) o0;simp only [e];exact QY)
     have ZB:=ah (aX YB SY.1 YB.size (by omega));clear Y4 Y5 YB QY SY;go_wp2_with fail;go_meet;exact ⟨Z4,Z5,ZB⟩
  case rest=>
   obtain ⟨Z4,Z5,ZB⟩:=hcut;obtain ⟨w6,rfl⟩:∃x,x=wc:=⟨wc,rfl⟩;clear X0 X4 X5 XB wM HCC FX;have hbl:=HBL.out;obtain ⟨ps,pa,pL,pc,pb,pM,pd,hp5,hpr⟩:=Z5.out;have p0:=hp5.cell (i:=0) rfl;have p1:=hp5.cell (i:=1) rfl;have p2:=hp5.cell (i:=2) rfl;have pl:=hp5.lt;have uT:=ah hpr;clear hp5 hpr Z5;obtain ⟨es,ea,eL,ec,eb,eM,ed,hx5⟩:=Z4.out;have y0:=hx5.cell (i:=0) rfl;have y1:=hx5.cell (i:=1) rfl;have y2:=hx5.cell (i:=2) rfl;have z0:=hx5.frozen 0;have z1:=hx5.frozen 1;have z2:=hx5.frozen 2;have hS:=tC Z4.out (.bool ps) (.slice pa pL pc) (.slice pb pM pd);have HR:=ah (hS.2.1 _ _ _ _ _ _ uT.out);have sV:=ah (aX ZB.out hS.1 ZB.out.size (by omega));have HSZ2:=ah hS.2.2;have hxn:=D5 hx5 (.bool ps) (.slice pa pL pc) (.slice pb pM pd);have HX0:=ah (hxn.cell (i:=0) rfl);have Ao:=ah (hxn.cell (i:=1) rfl);have HX2:=ah (hxn.cell (i:=2) rfl);clear hx5 hS hbl hxn;go_wp2_with fail;refine bodyPost_ret (v:=.agg #[.bool ps,.slice pa pL pc,.slice pb pM pd]) (by have x0:=HX0.out;have x1:=Ao.out;have x2:=HX2.out;simp [results,Tryz.results47,go_sem,x0,x1,x2]) rfl ⟨_,rfl,?_,sV.out⟩;rw [HSZ2.out];exact HR.out
def G7 (l:List jg) (n:Int) (nm:ByteArray) (df:Int):Int:=((l.find? (isK (n,nm))).map jg.lv).getD df
def BG (rel:Bool) (low aC b wn wd:Int):Int:=if rel then 2*wd*b+2*(aC-low)*wn-(aC-low)*wd else 2*(wd*low+wn*(aC-low))
theorem Pm {b wd sn sd X V Dv Pf Df:Int} (hV:V*(2*wd)=X*Dv) (hP:Pf=b*(Dv*sd)+(V-b*Dv)*sn) (hD:Df=Dv*sd) :
  Pf*(2*(wd*sd))=(2*(wd*sd)*b+sn*(X-2*wd*b))*Df:=by
 subst hP hD;have e:(b*(Dv*sd)+(V-b*Dv)*sn)*(2*(wd*sd))=b*(Dv*sd)*(2*(wd*sd))+(V*(2*wd))*(sn*sd)-b*Dv*sn*(2*(wd*sd)):=by grind
 rw [e,hV];grind
theorem x2_mov (rel:Bool) (low aC b:Int) (wn wd sn sd:Int):2*(wd*sd)*b+sn*(BG rel low aC b wn wd-2*wd*b)+wd*sd=ED rel low aC b (wn,wd) (sn,sd):=by
 cases rel
 ·simp only [BG,ED,Bool.false_eq_true,if_false];grind
 ·simp only [BG,ED,if_true];grind
theorem oW {a b A B:Int} (h1:0≤a) (h2:0≤b) (h3:a≤A) (h4:b≤B):0≤a*b∧a*b≤A*B:=dA h1 h2 h3 h4
theorem MW {rel:Bool} {low aC b wn wd sn sd:Int} (l0:0≤low) (l1:low≤aC) (h1:aC≤65535) (b0:0≤b) (b1:b≤65535) (hw:lJ (wn,wd)) (hs:zD (sn,sd)) :
  -(1000000*(wd*sd))≤2*(wd*sd)*b+sn*(BG rel low aC b wn wd-2*wd*b)∧2*(wd*sd)*b+sn*(BG rel low aC b wn wd-2*wd*b)≤1000000*(wd*sd):=by
 obtain ⟨a0,a1,a2,_⟩:=hw;obtain ⟨c0,c1,c2,_⟩:=hs;simp only at a0 a1 a2 c0 c1 c2;obtain ⟨u0,u1⟩:=oW (a:=wd) (b:=sn) (A:=wd) (B:=sd) (by omega) c0 (Int.le_refl _) c1;obtain ⟨v0,v1⟩:=oW (a:=wn) (b:=sn) (A:=wd) (B:=sn) a0 c0 a1 (Int.le_refl _);have q1:1*1≤wd*sd:=Int.mul_le_mul a2 c2 (by omega) (by omega);obtain ⟨qb0,qb1⟩:=oW (a:=wd*sd) (b:=b) (A:=wd*sd) (B:=65535) (by omega) b0 (Int.le_refl _) b1;obtain ⟨ub0,ub1⟩:=oW (a:=wd*sn) (b:=b) (A:=wd*sd) (B:=65535) u0 b0 u1 b1;obtain ⟨ul0,ul1⟩:=oW (a:=wd*sn) (b:=low) (A:=wd*sd) (B:=65535) u0 l0 u1 (by omega);obtain ⟨vs0,vs1⟩:=oW (a:=wn*sn) (b:=aC-low) (A:=wd*sd) (B:=65535) v0 (by omega) (by omega) (by omega);obtain ⟨us0,us1⟩:=oW (a:=wd*sn) (b:=aC-low) (A:=wd*sd) (B:=65535) u0 (by omega) u1 (by omega);cases rel
 ·have e:2*(wd*sd)*b+sn*(BG false low aC b wn wd-2*wd*b)=2*(wd*sd*b)+2*(wd*sn*low)+2*(wn*sn*(aC-low))-2*(wd*sn*b):=by
   simp only [BG,Bool.false_eq_true,if_false];grind
  rw [e];omega
 ·have e:2*(wd*sd)*b+sn*(BG true low aC b wn wd-2*wd*b)=2*(wd*sd*b)+2*(wn*sn*(aC-low))-wd*sn*(aC-low):=by
   simp only [BG,if_true];grind
  rw [e];omega
theorem Kc {P:Int} {D:Nat} {X Q:Int} (hD:0<D) (hQ:0<Q) (he:P*Q=X*(D:Int)) (h1:-(1000000*Q)≤X) (h2:X≤1000000*Q):(P*2+(D:Int)).natAbs / (D*2)≤4611686018427387904:=by
 have k1:-(1000000*(D:Int))≤P:=by
  have:-(1000000*(D:Int))*Q≤P*Q:=by
   rw [he];have:=Int.mul_le_mul_of_nonneg_right h1 (show (0:Int)≤(D:Int) by omega);have e:-(1000000*(D:Int))*Q=-(1000000*Q)*(D:Int):=by grind
   rw [e];exact this
  exact Int.le_of_mul_le_mul_right this hQ
 have k2:P≤1000000*(D:Int):=by
  have:P*Q≤1000000*(D:Int)*Q:=by
   rw [he];have:=Int.mul_le_mul_of_nonneg_right h2 (show (0:Int)≤(D:Int) by omega);have e:1000000*(D:Int)*Q=1000000*Q*(D:Int):=by grind
   rw [e];exact this
  exact Int.le_of_mul_le_mul_right this hQ
 have k3:(P*2+(D:Int)).natAbs≤2000001*D:=by omega
 have k4:2000001*D≤4611686018427387904*(D*2):=by omega
 exact Nat.div_le_of_le_mul (by rw [Nat.mul_comm];omega)
theorem KV {rel:Bool} {low aC b wn wd sn sd V Pf:Int} {Dv Df:Nat} (hwd:0<wd) (hsd:0<sd) (hDv:0<Dv) (hV:V*(2*wd)=BG rel low aC b wn wd*(Dv:Int)) (hP:Pf=b*((Dv:Int)*sd)+(V-b*(Dv:Int))*sn) (hD:(Df:Int)=(Dv:Int)*sd) :
  zy (zU Pf Df)=sI rel low aC b (wn,wd) (sn,sd):=by
 have he:=Pm hV hP hD;have hq:0<wd*sd:=Int.mul_pos hwd hsd
 have hDf:0<Df:=by
  have:(0:Int)<(Dv:Int)*sd:=Int.mul_pos (by omega) hsd;omega
 unfold sI;congr 1
 rw [←x2_mov];generalize 2*(wd*sd)*b+sn*(BG rel low aC b wn wd-2*wd*b)=X at *;show (Pf*2+(Df:Int)) / ((Df*2:Nat):Int)=(X+wd*sd) / (2*(wd*sd));obtain ⟨q,hqq⟩:∃q:Nat,wd*sd=(q:Int):=⟨(wd*sd).toNat,by omega⟩;rw [hqq] at he hq ⊢
 have e2:(Pf*2+(Df:Int))*((2*q:Nat):Int)=(X+(q:Int))*((Df*2:Nat):Int):=by
  push_cast;have:(Pf*2+(Df:Int))*(2*(q:Int))=2*(Pf*(2*(q:Int)))+(Df:Int)*(2*(q:Int)):=by grind
  rw [this,he];grind
 have:=xM (q:=Pf*2+(Df:Int)) (g:=Df*2) (P:=X+(q:Int)) (D:=2*q) (by omega) (by omega) e2;rw [this];push_cast;rfl
theorem LB {l:List jg} (h:rD l) (k:Int×ByteArray):l.reverse.find? (isK k)=l.find? (isK k):=by
 cases h1:l.find? (isK k) with
 | none=>
  rw [List.find?_eq_none] at h1 ⊢;intro x hx;exact h1 x (List.mem_reverse.1 hx)
 | some s=>
  cases h2:l.reverse.find? (isK k) with
  | none=>
   rw [List.find?_eq_none] at h2;exact absurd (List.find?_some h1) (h2 s (List.mem_reverse.2 (List.mem_of_find?_eq_some h1)))
  | some u=>
   have a1:=List.mem_of_find?_eq_some h1;have a2:=List.mem_reverse.1 (List.mem_of_find?_eq_some h2);have k1:=rW.1 (List.find?_some h1);have k2:=rW.1 (List.find?_some h2);obtain ⟨i,hi,rfl⟩:=List.getElem_of_mem a1;obtain ⟨j,hj,rfl⟩:=List.getElem_of_mem a2;have hn:=List.pairwise_iff_getElem.1 h;by_cases e:i=j
   ·subst e;rfl
   ·exfalso;rcases Nat.lt_or_gt_of_ne e with e | e
    ·exact hn i j (by simpa using hi) (by simpa using hj) e (by rw [List.getElem_map,List.getElem_map,k1,k2])
    ·exact hn j i (by simpa using hj) (by simpa using hi) e (by rw [List.getElem_map,List.getElem_map,k1,k2])
def sJ (r:jw) (l:List jg) (k:Int×ByteArray):Int:=G7 l k.1 k.2 ((nT r k).getD 0)
theorem levI_eq {r:jw} {l:List jg} (h:rD l) (k:Int×ByteArray):sJ r l k=xD r l k:=by
 unfold sJ G7 xD yV;rw [LB h];have:(k.1,k.2)=k:=rfl;rw [this]
 cases l.find? (isK k) with
 | none=>rfl
 | some s=>rfl
theorem BK (x:Run) (t:Int) (f g:Int×ByteArray→Int) (h:∀k∈x.aN,f k=g k):fV x t f=fV x t g:=by
 unfold fV;split
 ·rfl
 ·unfold og;apply List.ext_getElem (by simp);intro i h1 h2;simp only [List.length_mapIdx] at h1;simp only [List.getElem_mapIdx];unfold yh;rw [h _ (List.getElem_mem h1)]
end Go.Proofs.YtopmdeefcjdadaaGreat
