import Derived.Test.YtopmdeefcjdadaaGreatT42M00
import Derived.Test.YtopmdeefcjdadaaGreatT42M25
import Derived.Test.YtopmdeefcjdadaaGreatT42M17
set_option linter.unusedVariables false
set_option linter.unusedSimpArgs false
set_option maxRecDepth 100000
set_option maxHeartbeats 32000000
namespace Go.Proofs.YtopmdeefcjdadaaGreat
open Go.RowKit
theorem bM.wide {B D m n m' n':Nat} {P:Int} {w:World} {v:Value} (h:bM B w v P D m n) (hm:m≤m') (hn:n≤n'):bM B w v P D m' n':=by
 obtain ⟨p,d,q1,q2,q3,q4,q5,q6⟩:=h;exact ⟨p,d,q1,q2,q3,q4,Dn q5 hm,Dn q6 hn⟩
def NewW (R:Int×Int) (m n:Nat) (w:World) (e:Ending) (w':World):Prop:=∃v P D,e=.returned v∧bM w'.heap.size w' v P D m n∧P*R.2=R.1*(D:Int)∧Below w.heap.size w w'
def AlK (w:World) (E:Array Value) (tb:Nat) (T:Int) (d:Nat) (W:World):Prop:=aH W w.heap.size 28 E∧AnyQ W (w.heap.size+2)∧gY W tb T d 22 15∧w.heap.size+3≤tb∧Below w.heap.size w W
section
variable {w W W':World} {E:Array Value} {tb g d:Nat} {T:Int}
theorem AlK.below (h:AlK w E tb T d W) (hb:Below W.heap.size W W'):AlK w E tb T d W':=by
 obtain ⟨h1,h2,h3,h4,h5⟩:=h;exact ⟨h1.below hb,h2.below hb,h3.below hb,h4,h5.trans (hb.mono h5.size)⟩
theorem AlK.wM (h:AlK w E tb T d W) (hs:Stq W g W') (h1:w.heap.size+3≤g) (h2:tb≠g):AlK w E tb T d W':=by
 obtain ⟨k1,k2,k3,k4,k5⟩:=h;exact ⟨k1.fE hs.1 (by omega),k2.wM hs (by omega),k3.wM hs h2,k4,aY k5 hs.1 k5.size (by omega)⟩
theorem AlK.size (h:AlK w E tb T d W):w.heap.size+3≤W.heap.size∧tb<W.heap.size:=by
 obtain ⟨k1,k2,k3,k4,k5⟩:=h;have:=k3.any.lt;omega
end
theorem NM {lv kT Z T b1 bG PL:Int} {d:Nat} (hf:0<bG) (hPL:PL=lv*((d*bG.toNat:Nat):Int)+(kT-lv)*Z*((1:Nat):Int)) (hZ:Z=T-d*b1) :
  PL*((d:Int)*bG*65535)=(((d:Int)*bG-(T-d*b1))*lv+(T-d*b1)*kT)*((d*bG.toNat*65535:Nat):Int):=by
 obtain ⟨f,rfl⟩:∃f:Nat,bG=(f:Int):=⟨bG.toNat,by omega⟩;have e0:((f:Int)).toNat=f:=Int.toNat_natCast f;have e1:((d*f:Nat):Int)=(d:Int)*(f:Int):=Int.natCast_mul d f;have e2:((d*f*65535:Nat):Int)=(d:Int)*(f:Int)*65535:=by rw [Int.natCast_mul,e1];rfl
 have e3:((1:Nat):Int)=1:=rfl;rw [hPL,←hZ,e0,e1,e2,e3];generalize (d:Int)=D;generalize (f:Int)=F;grind
theorem Kq {a:Int}:qp a<0↔a<0:=by
 unfold qp;by_cases c:a=0
 ·rw [if_pos c];omega
 ·rw [if_neg c];split<;>omega
theorem NN (aK low aD aA ay ak c pn:Int) (aI rel:Bool) (ao:Option Addr) (cap:Nat) (l:List Stp) (v:Value) (d:Nat) (w:World) (hs:eH w.heap.size w ao l) (hl:l.length≤50) (hall:l.all fV=true) (hc:0≤aA∧aA≤3600000) (h6:aK≠7→l.length=0) (h7:aK=7→aA=0) (hcc:aA+dh l=c) (c0:1≤c) (c1:c≤3600000) (hd:d≤10 ^ 15) (hd0:0<d)
  (hv:bM w.heap.size w v pn d 15 15) :
  Calls Tryz.prog 88 #[.agg #[.int .i64 aK,.int .i64 low,.int .i64 aD,.int .i64 aA,.int .i64 ay,.int .i64 ak,.bool aI,.bool rel,.slice ao l.length cap],v] w (NewW (iA l (pn*c) d l.length 0 0) 40 40 w):=by
 have CC:=ah (fun (W:World) (hb:Below w.heap.size w W)=>zH aK low aD aA ay ak c aI rel ao cap l W (dA hs hb) hl hall hc h6 h7 hcc);have HS:=ah hs;have HA:=ah (fun k (h:k<l.length)=>sQ (List.all_eq_true.1 hall _ (List.getElem_mem h)));obtain ⟨s0,ao0,L0,cp0,bo0,M0,cq0,rfl⟩:=fB hv;have HX:=ah hv
 have EC:(d:Int)≤1000000000000000:=by
  have:d≤1000000000000000:=hd;omega
 have hc7:c.natAbs≤10 ^ 7:=by
  have:c.natAbs≤10000000:=by omega
  exact this
 clear hs hall hv hcc hc h6 h7;generalize hT:pn*c=T at *;have HT:=ah hT;clear hT;generalize QK:iA l T d l.length 0 0=RES;have HRES:=ah QK.symm;clear QK;have HE:=ah (show aH (((w.alloc (.cells #[.int .i64 aK,.int .i64 low,.int .i64 aD,.int .i64 aA,.int .i64 ay,.int .i64 ak,.bool aI,.bool rel,.slice ao l.length cap] 28)).alloc (.cells #[.bool s0,.slice ao0 L0 cp0,.slice bo0 M0 cq0] 99)).alloc (.cells #[.bool false,.slice none 0 0,.slice none 0 0] 99)) w.heap.size 28 #[.int .i64 aK,.int .i64 low,.int .i64 aD,.int .i64 aA,.int .i64 ay,.int .i64 ak,.bool aI,.bool rel,.slice ao l.length cap] from ((aH.new w _ _).alloc _).alloc _)
 have HXB:=ah (show gY (((w.alloc (.cells #[.int .i64 aK,.int .i64 low,.int .i64 aD,.int .i64 aA,.int .i64 ay,.int .i64 ak,.bool aI,.bool rel,.slice ao l.length cap] 28)).alloc (.cells #[.bool s0,.slice ao0 L0 cp0,.slice bo0 M0 cq0] 99)).alloc (.cells #[.bool false,.slice none 0 0,.slice none 0 0] 99)) (w.heap.size+1) pn d 15 15 from by
  have h:=(aH.new (w.alloc (.cells #[.int .i64 aK,.int .i64 low,.int .i64 aD,.int .i64 aA,.int .i64 ay,.int .i64 ak,.bool aI,.bool rel,.slice ao l.length cap] 28)) #[.bool s0,.slice ao0 L0 cp0,.slice bo0 M0 cq0] 99).alloc (.cells #[.bool false,.slice none 0 0,.slice none 0 0] 99);simp only [World.size_alloc] at h;exact ⟨_,_,_,_,_,_,_,h,HX.out.up ((((Below.refl _ _).alloc (Nat.le_refl _) _).alloc (by simp) _).alloc (by simp;omega) _)⟩)
 have HR:=ah (show AnyQ (((w.alloc (.cells #[.int .i64 aK,.int .i64 low,.int .i64 aD,.int .i64 aA,.int .i64 ay,.int .i64 ak,.bool aI,.bool rel,.slice ao l.length cap] 28)).alloc (.cells #[.bool s0,.slice ao0 L0 cp0,.slice bo0 M0 cq0] 99)).alloc (.cells #[.bool false,.slice none 0 0,.slice none 0 0] 99)) (w.heap.size+2) from by
  have h:=aH.new ((w.alloc (.cells #[.int .i64 aK,.int .i64 low,.int .i64 aD,.int .i64 aA,.int .i64 ay,.int .i64 ak,.bool aI,.bool rel,.slice ao l.length cap] 28)).alloc (.cells #[.bool s0,.slice ao0 L0 cp0,.slice bo0 M0 cq0] 99)) #[.bool false,.slice none 0 0,.slice none 0 0] 99;simp only [World.size_alloc] at h;exact ⟨_,_,_,_,_,_,_,h⟩)
 have HB:=ah (show Below w.heap.size w (((w.alloc (.cells #[.int .i64 aK,.int .i64 low,.int .i64 aD,.int .i64 aA,.int .i64 ay,.int .i64 ak,.bool aI,.bool rel,.slice ao l.length cap] 28)).alloc (.cells #[.bool s0,.slice ao0 L0 cp0,.slice bo0 M0 cq0] 99)).alloc (.cells #[.bool false,.slice none 0 0,.slice none 0 0] 99)) from (((Below.refl _ _).alloc (Nat.le_refl _) _).alloc (by simp) _).alloc (by simp;omega) _);have hz1:w.heap.size+3=((((w.alloc (.cells #[.int .i64 aK,.int .i64 low,.int .i64 aD,.int .i64 aA,.int .i64 ay,.int .i64 ak,.bool aI,.bool rel,.slice ao l.length cap] 28)).alloc (.cells #[.bool s0,.slice ao0 L0 cp0,.slice bo0 M0 cq0] 99)).alloc (.cells #[.bool false,.slice none 0 0,.slice none 0 0] 99))).heap.size:=by simp
 clear HX;go_enter Tryz.func88,Tryz.ntmps88;go_upto_region 1 with fail;generalize (((w.alloc (.cells #[.int .i64 aK,.int .i64 low,.int .i64 aD,.int .i64 aA,.int .i64 ay,.int .i64 ak,.bool aI,.bool rel,.slice ao l.length cap] 28)).alloc (.cells #[.bool s0,.slice ao0 L0 cp0,.slice bo0 M0 cq0] 99)).alloc (.cells #[.bool false,.slice none 0 0,.slice none 0 0] 99))=w1 at *;have hz1:w.heap.size≤w1.heap.size:=by omega
 refine aX (by kernel_rfl) 6 (by simp) (by kernel_rfl) (by kernel_rfl) (by kernel_rfl) (by kernel_rfl) (fun jx vx wx=>match jx with | 0=>bM wx.heap.size wx vx (pn) (d) 15 15 | 1=>vx=(.agg #[.int .i64 aK,.int .i64 low,.int .i64 aD,.int .i64 aA,.int .i64 ay,.int .i64 ak,.bool aI,.bool rel,.slice ao l.length cap]) | 2=>vx=(.int .i64 c) | 3=>bM wx.heap.size wx vx (c) (1) 7 0 | 4=>bM wx.heap.size wx vx (T) (d) 22 15 | 5=>fF w1.heap.size 99 #[.bool false,.slice none 0 0,.slice none 0 0] vx wx | _=>True) (fun W=>Below w1.heap.size w1 W) (fun wx wy=>Below wx.heap.size wx wy) (Below.refl _ _).drew ?_ ?_ ?_ ?_
 ·intro jx vx wx wy h g
  match jx,h with
  | 0,h | 3,h | 4,h=>exact bM.up h g
  | 1,h | 2,h=>exact h
  | 5,h=>exact fF.up h g
  | jx+6,h=>exact trivial
 ·intro jx ox dx hj ho hd;exact bO (by kernel_rfl) hj ho hd
 ·intro ix ox ax W hi aC hsh hW hpre;have hsz:w1.heap.size≤W.heap.size:=hW.size;have GA:∀ob,Below W.heap.size W (W.alloc ob):=fun ob=>(Below.refl _ _).alloc (Nat.le_refl _) ob;have WA:∀ob,Below w1.heap.size w1 (W.alloc ob):=fun ob=>hW.alloc hsz ob;have t2:ax.tmps[2]?.getD undef=(.pointer (some ⟨w.heap.size,0,none⟩)):=gT (hsh.2.2 2 (aM (by kernel_rfl)));have t3:ax.tmps[3]?.getD undef=(.pointer (some ⟨w.heap.size+1,0,none⟩)):=gT (hsh.2.2 3 (aM (by kernel_rfl)));obtain ⟨LK,NQ,NU,NC,NI,NS,Nv,gJ,jC⟩:=(HXB.out.below hW);obtain ⟨AR,AQ,AP⟩:=pG gJ;have e0:=(HE.out.below hW).cell (i:=0) rfl;have e1:=(HE.out.below hW).cell (i:=1) rfl;have e2:=(HE.out.below hW).cell (i:=2) rfl;have e3:=(HE.out.below hW).cell (i:=3) rfl;have e4:=(HE.out.below hW).cell (i:=4) rfl;have e5:=(HE.out.below hW).cell (i:=5) rfl;have e6:=(HE.out.below hW).cell (i:=6) rfl;have e7:=(HE.out.below hW).cell (i:=7) rfl;have e8:=(HE.out.below hW).cell (i:=8) rfl;clear hsh
  match ix,hi,aC with
  | 0,_,aC=>
   cases aC;exact au (w':=W) (by simp [execOp,Act.eval,t3,AR,AQ,AP,go_sem]) ⟨_,rfl,jC,hW,Below.refl _ _⟩
  | 1,_,aC=>
   cases aC;exact au (w':=W) (by simp [execOp,Act.eval,t2,e0,e1,e2,e3,e4,e5,e6,e7,e8,go_sem]) (aS hW)
  | 2,_,aC=>
   cases aC;have f1:=gT (hpre ⟨1,.data⟩ (by simp) (by rfl) _ _ rfl rfl);refine aG (by simp [execOp,Act.eval,f1,go_sem]) ((CC.out W (HB.out.trans (hW.mono hz1))).mono ?_);rintro ex wy ⟨rfl,hb⟩;exact ⟨_,rfl,_,rfl,rfl,hW.trans (hb.mono hsz),hb⟩
  | 3,_,aC=>
   cases aC;have f2:=gT (hpre ⟨2,.data⟩ (by simp) (by rfl) _ _ rfl rfl);refine aG (by simp [execOp,Act.eval,f2,go_sem]) ((gZ (c) 7 W (by omega) (by omega) hc7).mono ?_);rintro ex wy ⟨vn,rfl,hq,hb⟩;exact ⟨vn,rfl,_,rfl,hq,hW.trans (hb.mono hsz),hb⟩
  | 4,_,aC=>
   cases aC;obtain ⟨v0,f0,r0⟩:=gR (fun v=>bM W.heap.size W v (pn) (d) 15 15) (hpre ⟨0,.data⟩ (by simp) (by rfl) _ _ rfl rfl);obtain ⟨v3,f3,r3⟩:=gR (fun v=>bM W.heap.size W v (c) (1) 7 0) (hpre ⟨3,.data⟩ (by simp) (by rfl) _ _ rfl rfl);refine aG (by simp [execOp,Act.eval,f0,f3,go_sem]) (((uy W.heap.size _ _ 15 15 7 0 _ _ _ _ W (Nat.le_refl _) (by omega) (by omega) r0 r3).mono (fun _ _ h=>eX h HT.out (Nat.mul_one _))).mono ?_);rintro ex wy ⟨vn,rfl,hq,hb⟩;exact ⟨vn,rfl,_,rfl,hq,hW.trans (hb.mono hsz),hb⟩
  | 5,_,aC=>
   cases aC;exact au (v:=.pointer (some ⟨W.heap.size,0,none⟩)) (w':=W.alloc (.cells #[.bool false,.slice none 0 0,.slice none 0 0] 99)) (by simp [execOp,Act.eval,jo,go_sem]) ⟨_,rfl,fF.new _ _ hsz,WA _,GA _⟩
  | ix+6,hi,_=>exact absurd hi (by omega)
 ·intro ax w2 hsh hW hφ;have q0:bM w2.heap.size w2 (ax.tmps.getD 13 undef) (pn) (d) 15 15:=hφ 0 _ _ (by omega) rfl rfl;obtain ⟨v0,e0⟩:∃v,ax.tmps.getD 13 undef=v:=⟨_,rfl⟩;rw [e0] at q0;have Q0:=ah q0;clear q0;have e1:=hφ 1 _ _ (by omega) rfl rfl;have e2:=hφ 2 _ _ (by omega) rfl rfl;have q3:bM w2.heap.size w2 (ax.tmps.getD 16 undef) (c) (1) 7 0:=hφ 3 _ _ (by omega) rfl rfl;obtain ⟨v3,e3⟩:∃v,ax.tmps.getD 16 undef=v:=⟨_,rfl⟩;rw [e3] at q3;have Q3:=ah q3;clear q3;have q4:bM w2.heap.size w2 (ax.tmps.getD 17 undef) (T) (d) 22 15:=hφ 4 _ _ (by omega) rfl rfl;obtain ⟨v4,e4⟩:∃v,ax.tmps.getD 17 undef=v:=⟨_,rfl⟩;rw [e4] at q4;have Q4:=ah q4;clear q4;obtain ⟨b5,e5,hb5,hl5⟩:=hφ 5 _ _ (by omega) rfl rfl;rw [bf hsh [(13,_),(14,_),(15,_),(16,_),(17,_),(5,_)] [13,14,15,16,17,5] rfl (by kernel_rfl) ⟨e0,e1,e2,e3,e4,e5,trivial⟩];clear hφ hsh e0 e1 e2 e3 e4 e5;simp only [cB,List.foldl_cons,List.foldl_nil,List.drop_succ_cons,List.drop_zero,Act.put,List.setIfInBounds_toArray,List.set_cons_succ,List.set_cons_zero];have yP:=hW.size;refine bX w2 rfl _ _ rfl b5 rfl rfl Q4.out ⟨_,_,_,_,_,_,_,hl5⟩ ?_;intro w3 QY SY;simp only [Act.put];have HK3:=ah (show AlK w #[.int .i64 aK,.int .i64 low,.int .i64 aD,.int .i64 aA,.int .i64 ay,.int .i64 ak,.bool aI,.bool rel,.slice ao l.length cap] b5 T d w3 from ⟨(HE.out.below hW).fE SY.1 (by omega),(HR.out.below hW).wM SY (by omega),QY,by omega,aY (HB.out.trans (hW.mono hz1)) SY.1 (by omega) (by omega)⟩);obtain ⟨tb,htb⟩:∃tb,tb=b5:=⟨_,rfl⟩;rw [←htb] at HK3 ⊢;clear htb hW QY SY hl5 HE HXB HR HB Q0 Q3 Q4 CC hz1;obtain ⟨qz0,qz1⟩:=HK3.out.size;have e8:=HK3.out.1.cell (i:=8) rfl;have hlt0:w.heap.size<w3.heap.size:=by omega
  go_wp2_with fail;go_loopw [21,6] (fun ix bx wx=>∃(j:Nat) (bg:Int),j≤l.length∧ix=.int .i64 j∧bx=.int .i64 bg∧0≤bg∧bg≤7200000*j∧Hid (RES=iA l T d (l.length-j) j bg)∧Hid (AlK w #[.int .i64 aK,.int .i64 low,.int .i64 aD,.int .i64 aA,.int .i64 ay,.int .i64 ak,.bool aI,.bool rel,.slice ao l.length cap] tb T d wx)) (fun ix _ _=>l.length-(intOf ix).toNat)
  case atStart=>exact ⟨0,0,Nat.zero_le _,rfl,rfl,by omega,by omega,ah (by rw [Nat.sub_zero];exact HRES.out),HK3⟩
  case round=>
   clear HK3 qz0 qz1 e8 hlt0;obtain ⟨j,bg,hj,rfl,rfl,g0,g1,HR,HK⟩:=hrel;have yP:=HK.out.size;by_cases hlt:j<l.length
   ·obtain ⟨sp,off,hlo,hsb,hcs⟩:=HS.out (by intro h;subst h;simp at hlt);subst hlo;have Gc:(j+1) % l.length<l.length:=Nat.mod_lt _ (by omega);obtain ⟨e0,e1,e2⟩:=hcs j hlt;have HYC:=ah (hcs _ Gc);have d0:=(HK.out.2.2.2.2.cell (p:=⟨sp,off+j*3,none⟩) hsb).trans e0;have d1:=(HK.out.2.2.2.2.cell (p:=⟨sp,off+j*3+1,none⟩) hsb).trans e1;have d2:=(HK.out.2.2.2.2.cell (p:=⟨sp,off+j*3+2,none⟩) hsb).trans e2;have hsr:sp<wr.heap.size:=Nat.lt_of_lt_of_le hsb HK.out.2.2.2.2.size;obtain ⟨⟨hlv0,hlv1⟩,⟨hh0,hh1⟩,hf0,hf1⟩:=HA.out j hlt;obtain ⟨⟨hlw0,hlw1⟩,_,_,_⟩:=HA.out _ Gc;have hr1:RES=iA l T d (l.length-(j+1)+1) j bg:=by rw [show l.length-(j+1)+1=l.length-j by omega];exact HR.out
    have JZ:=ah (fun h=>hr1.trans (BJ (L:=l) (p:=T) (d:=d) (c:=l.length-(j+1)) (j:=j) (b:=bg) h));have EH:=ah (fun h h2=>hr1.trans (Ki (L:=l) (p:=T) (d:=d) (c:=l.length-(j+1)) (j:=j) (b:=bg) h h2));have Hy:=ah (fun h h2=>hr1.trans (ET (L:=l) (p:=T) (d:=d) (c:=l.length-(j+1)) (j:=j) (b:=bg) h h2));rw [oQ hlt] at JZ EH Hy;rw [oQ Gc] at EH;generalize Qv:(j+1) % l.length=nj at *;have HNJ:=ah Qv;clear Qv hcs e0 e1 e2 hr1 HR;generalize Hl:l[j]=x9 at *;clear Hl;generalize Hg:l[nj]=y9 at *;clear Hg;obtain ⟨lv,hold,bG⟩:=x9;obtain ⟨kT,Co,Cu⟩:=y9;simp only at *;have hj50:j≤50:=by omega
    have awx:wrap64 (bg+hold)=bg+hold:=IntWalk.wrap64_in _ (by omega);have awy:wrap64 (bg+hold+bG)=bg+hold+bG:=IntWalk.wrap64_in _ (by omega);have hb0:0≤bg+hold:=by omega
    have hb4:bg+hold≤400000000:=by omega
    have QF:bg+hold+bG≤400000000:=by omega
    have hg7:bg+hold+bG≤7200000*((j:Int)+1):=by omega
    have iB:=ah (aH.new wr #[.int .i64 lv,.int .i64 hold,.int .i64 bG] 109);have JW:=ah (HK.out.below ((Below.refl wr.heap.size wr).alloc (Nat.le_refl _) (.cells #[.int .i64 lv,.int .i64 hold,.int .i64 bG] 109)));clear HK;go_upto_region 7 with fail;clear d0 d1 d2;generalize hwB:wr.alloc (.cells #[.int .i64 lv,.int .i64 hold,.int .i64 bG] 109)=wB at *;clear hwB;obtain ⟨sb,Qq⟩:∃sb,sb=wr.heap.size:=⟨_,rfl⟩;rw [←Qq] at iB ⊢;have hsb4:w.heap.size+3≤sb∧tb<sb∧sb<wB.heap.size:=⟨by omega,by omega,iB.out.lt⟩;clear Qq awx awy;obtain ⟨b1,hb1⟩:∃b1,b1=bg+hold:=⟨_,rfl⟩;have aw1:IntKind.i64.wrap (bg+hold)=b1:=by rw [hb1];exact IntWalk.i64_in _ (by omega)
    rw [←hb1] at JZ EH Hy hb0 hb4 QF hg7 ⊢;clear hb1
    have h10:(b1+bG).natAbs≤10 ^ 10:=by
     have:(b1+bG).natAbs≤10000000000:=by omega
     exact this
    have h10b:b1.natAbs≤10 ^ 10:=by
     have:b1.natAbs≤10000000000:=by omega
     exact this
    obtain ⟨O,hO⟩:∃O,O=qp (T*((1:Nat):Int)-(b1+bG)*(d:Int)):=⟨_,rfl⟩;have HO:=ah hO.symm
    have hON:O<0↔T<d*(b1+bG):=by
     rw [hO,Kq,Int.mul_comm (d:Int)];omega
    clear hO;obtain ⟨ob,Kw⟩:∃ob,decide (O<0)=ob:=⟨_,rfl⟩;refine aX (by kernel_rfl) 5 (by simp) (by kernel_rfl) (by kernel_rfl) (by kernel_rfl) (by kernel_rfl) (fun jx vx wx=>match jx with | 0=>bM wx.heap.size wx vx (T) (d) 22 15 | 1=>vx=(.int .i64 (b1+bG)) | 2=>bM wx.heap.size wx vx (b1+bG) (1) 10 0 | 3=>vx=(.int .i64 O) | 4=>vx=(.bool ob) | _=>True) (fun W=>Below wB.heap.size wB W) (fun wx wy=>Below wx.heap.size wx wy) (Below.refl _ _).drew ?_ ?_ ?_ ?_
    ·intro jx vx wx wy h g
     match jx,h with
     | 0,h | 2,h=>exact bM.up h g
     | 1,h | 3,h | 4,h=>exact h
     | jx+5,h=>exact trivial
    ·intro jx ox dx hj ho hd;exact bO (by kernel_rfl) hj ho hd
    ·intro ix ox ax W hi aC hsh hW hpre;have hsz:wB.heap.size≤W.heap.size:=hW.size;have GA:∀ob,Below W.heap.size W (W.alloc ob):=fun ob=>(Below.refl _ _).alloc (Nat.le_refl _) ob;have WA:∀ob,Below wB.heap.size wB (W.alloc ob):=fun ob=>hW.alloc hsz ob;have t5:ax.tmps[5]?.getD undef=(.pointer (some ⟨tb,0,none⟩)):=gT (hsh.2.2 5 (aM (by kernel_rfl)));have t9:ax.tmps[9]?.getD undef=(.int .i64 (b1+bG)):=gT (hsh.2.2 9 (aM (by kernel_rfl)));obtain ⟨s_t,a_t,L_t,c_t,b_t,M_t,d_t,tb_t,hr_t⟩:=(JW.out.below hW).2.2.1;obtain ⟨xt0,xt1,xt2⟩:=pG tb_t;clear hsh
     match ix,hi,aC with
     | 0,_,aC=>
      cases aC;exact au (w':=W) (by simp [execOp,Act.eval,t5,xt0,xt1,xt2,go_sem]) ⟨_,rfl,hr_t,hW,Below.refl _ _⟩
     | 1,_,aC=>
      cases aC;exact au (w':=W) (by simp [execOp,Act.eval,t9,go_sem]) (aS hW)
     | 2,_,aC=>
      cases aC;have f1:=gT (hpre ⟨1,.data⟩ (by simp) (by rfl) _ _ rfl rfl);refine aG (by simp [execOp,Act.eval,f1,go_sem]) ((gZ (b1+bG) 10 W (by omega) (by omega) h10).mono ?_);rintro ex wy ⟨vn,rfl,hq,hb⟩;exact ⟨vn,rfl,_,rfl,hq,hW.trans (hb.mono hsz),hb⟩
     | 3,_,aC=>
      cases aC;obtain ⟨v0,f0,r0⟩:=gR (fun v=>bM W.heap.size W v (T) (d) 22 15) (hpre ⟨0,.data⟩ (by simp) (by rfl) _ _ rfl rfl);obtain ⟨v2,f2,r2⟩:=gR (fun v=>bM W.heap.size W v (b1+bG) (1) 10 0) (hpre ⟨2,.data⟩ (by simp) (by rfl) _ _ rfl rfl);refine aG (by simp [execOp,Act.eval,f0,f2,go_sem]) (((IQ W.heap.size _ _ 22 15 10 0 26 _ _ _ _ W (Nat.le_refl _) (by omega) (by omega) (by omega) (by omega) r0 r2).mono (fun _ _ h=>by rw [HO.out] at h;exact h)).mono ?_);rintro ex wy ⟨rfl,hb⟩;exact ⟨_,rfl,_,rfl,rfl,hW.trans (hb.mono hsz),hb⟩
     | 4,_,aC=>
      cases aC;have f3:=gT (hpre ⟨3,.data⟩ (by simp) (by rfl) _ _ rfl rfl);exact au (w':=W) (by simp [execOp,Act.eval,Kw,f3,go_sem]) (aS hW)
     | ix+5,hi,_=>exact absurd hi (by omega)
    ·intro ax wC hsh hW hφ;have q0:bM wC.heap.size wC (ax.tmps.getD 33 undef) (T) (d) 22 15:=hφ 0 _ _ (by omega) rfl rfl;obtain ⟨v0,e0⟩:∃v,ax.tmps.getD 33 undef=v:=⟨_,rfl⟩;rw [e0] at q0;have Q0:=ah q0;clear q0;have e1:=hφ 1 _ _ (by omega) rfl rfl;have q2:bM wC.heap.size wC (ax.tmps.getD 35 undef) (b1+bG) (1) 10 0:=hφ 2 _ _ (by omega) rfl rfl;obtain ⟨v2,e2⟩:∃v,ax.tmps.getD 35 undef=v:=⟨_,rfl⟩;rw [e2] at q2;have Q2:=ah q2;clear q2;have e3:=hφ 3 _ _ (by omega) rfl rfl;have e4:=hφ 4 _ _ (by omega) rfl rfl;rw [bf hsh [(33,_),(34,_),(35,_),(36,_),(37,_)] [33,34,35,36,37] rfl (by kernel_rfl) ⟨e0,e1,e2,e3,e4,trivial⟩];clear hφ hsh e0 e1 e2 e3 e4;simp only [cB,List.foldl_cons,List.foldl_nil,List.drop_succ_cons,List.drop_zero,Act.put,List.setIfInBounds_toArray,List.set_cons_succ,List.set_cons_zero];have HKC:=ah (JW.out.below hW);have G5:=ah (iB.out.below hW);have hzC:=hW.size;clear hW JW iB Q0 Q2 HO;by_cases hp2':T<d*(b1+bG);rotate_left
     ·obtain rfl:ob=false:=by
       rw [←Kw];exact decide_eq_false (fun h=>hp2' (hON.1 h))
      clear Kw;have hp1':¬T<d*b1:=fun h=>hp2' (Int.lt_of_lt_of_le h (Int.mul_le_mul_of_nonneg_left (by omega) (by omega)));have HRN:=ah (Hy.out (by omega) (by omega));clear JZ EH Hy hON hp1' hp2';have hsl:=G5.out.lt;go_wp2_with fail;go_roundw
      case rel=>exact ⟨j+1,b1+bG,by omega,by first | rfl | go_num,rfl,by omega,by omega,HRN,HKC⟩
      case measure=>simp [intOf];omega
     ·obtain rfl:ob=true:=by
       rw [←Kw];exact decide_eq_true (hON.2 hp2')
      clear Kw;obtain ⟨Z,hZ⟩:∃Z,Z=T*((1:Nat):Int)-b1*(d:Int):=⟨_,rfl⟩;have HZ:=ah hZ.symm;have hZ2:Z=T-d*b1:=by rw [hZ,Int.mul_comm (d:Int)];omega
      clear hON hZ;go_upto_region 8 with fail;refine aX (by kernel_rfl) 8 (by simp) (by kernel_rfl) (by kernel_rfl) (by kernel_rfl) (by kernel_rfl) (fun jx vx wx=>match jx with | 0=>bM wx.heap.size wx vx (T) (d) 22 15 | 1=>vx=(.int .i64 bg) | 2=>vx=(.pointer (some ⟨sb,1,none⟩)) | 3=>vx=(.int .i64 hold) | 4=>vx=(.int .i64 b1) | 5=>bM wx.heap.size wx vx (b1) (1) 10 0 | 6=>bM wx.heap.size wx vx (Z) (d) 26 15 | 7=>fF wC.heap.size 99 #[.bool false,.slice none 0 0,.slice none 0 0] vx wx | _=>True) (fun W=>Below wC.heap.size wC W) (fun wx wy=>Below wx.heap.size wx wy) (Below.refl _ _).drew ?_ ?_ ?_ ?_
      ·intro jx vx wx wy h g
       match jx,h with
       | 0,h | 5,h | 6,h=>exact bM.up h g
       | 1,h | 2,h | 3,h | 4,h=>exact h
       | 7,h=>exact fF.up h g
       | jx+8,h=>exact trivial
      ·intro jx ox dx hj ho hd;exact bO (by kernel_rfl) hj ho hd
      ·intro ix ox ax W hi aC hsh hW hpre;have hsz:wC.heap.size≤W.heap.size:=hW.size;have GA:∀ob,Below W.heap.size W (W.alloc ob):=fun ob=>(Below.refl _ _).alloc (Nat.le_refl _) ob;have WA:∀ob,Below wC.heap.size wC (W.alloc ob):=fun ob=>hW.alloc hsz ob;have t5:ax.tmps[5]?.getD undef=(.pointer (some ⟨tb,0,none⟩)):=gT (hsh.2.2 5 (aM (by kernel_rfl)));have t6:ax.tmps[6]?.getD undef=(.int .i64 bg):=gT (hsh.2.2 6 (aM (by kernel_rfl)));have t8:ax.tmps[8]?.getD undef=(.pointer (some ⟨sb,0,none⟩)):=gT (hsh.2.2 8 (aM (by kernel_rfl)));obtain ⟨s_t,a_t,L_t,c_t,b_t,M_t,d_t,tb_t,hr_t⟩:=(HKC.out.below hW).2.2.1;obtain ⟨xt0,xt1,xt2⟩:=pG tb_t;have s0:=(G5.out.below hW).cell (i:=0) rfl;have s1:=(G5.out.below hW).cell (i:=1) rfl;have s2:=(G5.out.below hW).cell (i:=2) rfl;clear hsh
       match ix,hi,aC with
       | 0,_,aC=>
        cases aC;exact au (w':=W) (by simp [execOp,Act.eval,t5,xt0,xt1,xt2,go_sem]) ⟨_,rfl,hr_t,hW,Below.refl _ _⟩
       | 1,_,aC=>
        cases aC;exact au (w':=W) (by simp [execOp,Act.eval,t6,go_sem]) (aS hW)
       | 2,_,aC=>
        cases aC;exact au (w':=W) (by simp [execOp,Act.eval,t8,go_sem]) (aS hW)
       | 3,_,aC=>
        cases aC;have f2:=gT (hpre ⟨2,.data⟩ (by simp) (by rfl) _ _ rfl rfl);exact au (w':=W) (by simp [execOp,Act.eval,s1,f2,go_sem]) (aS hW)
       | 4,_,aC=>
        cases aC;have f1:=gT (hpre ⟨1,.data⟩ (by simp) (by rfl) _ _ rfl rfl);have f3:=gT (hpre ⟨3,.data⟩ (by simp) (by rfl) _ _ rfl rfl);exact au (w':=W) (by simp [execOp,Act.eval,aw1,f1,f3,go_sem]) (aS hW)
       | 5,_,aC=>
        cases aC;have f4:=gT (hpre ⟨4,.data⟩ (by simp) (by rfl) _ _ rfl rfl);refine aG (by simp [execOp,Act.eval,f4,go_sem]) ((gZ (b1) 10 W (by omega) (by omega) h10b).mono ?_);rintro ex wy ⟨vn,rfl,hq,hb⟩;exact ⟨vn,rfl,_,rfl,hq,hW.trans (hb.mono hsz),hb⟩
       | 6,_,aC=>
        cases aC;obtain ⟨v0,f0,r0⟩:=gR (fun v=>bM W.heap.size W v (T) (d) 22 15) (hpre ⟨0,.data⟩ (by simp) (by rfl) _ _ rfl rfl);obtain ⟨v5,f5,r5⟩:=gR (fun v=>bM W.heap.size W v (b1) (1) 10 0) (hpre ⟨5,.data⟩ (by simp) (by rfl) _ _ rfl rfl);refine aG (by simp [execOp,Act.eval,f0,f5,go_sem]) (((qA W.heap.size _ _ 22 15 10 0 26 _ _ _ _ W (Nat.le_refl _) (by omega) (by omega) (by omega) (by omega) r0 r5).mono (fun _ _ h=>eX h HZ.out (Nat.mul_one _))).mono ?_);rintro ex wy ⟨vn,rfl,hq,hb⟩;exact ⟨vn,rfl,_,rfl,hq,hW.trans (hb.mono hsz),hb⟩
       | 7,_,aC=>
        cases aC;exact au (v:=.pointer (some ⟨W.heap.size,0,none⟩)) (w':=W.alloc (.cells #[.bool false,.slice none 0 0,.slice none 0 0] 99)) (by simp [execOp,Act.eval,jo,go_sem]) ⟨_,rfl,fF.new _ _ hsz,WA _,GA _⟩
       | ix+8,hi,_=>exact absurd hi (by omega)
      ·intro ax wD hsh hW hφ;have q0:bM wD.heap.size wD (ax.tmps.getD 38 undef) (T) (d) 22 15:=hφ 0 _ _ (by omega) rfl rfl;obtain ⟨v0,e0⟩:∃v,ax.tmps.getD 38 undef=v:=⟨_,rfl⟩;rw [e0] at q0;have Q0:=ah q0;clear q0;have e1:=hφ 1 _ _ (by omega) rfl rfl;have e2:=hφ 2 _ _ (by omega) rfl rfl;have e3:=hφ 3 _ _ (by omega) rfl rfl;have e4:=hφ 4 _ _ (by omega) rfl rfl;have q5:bM wD.heap.size wD (ax.tmps.getD 43 undef) (b1) (1) 10 0:=hφ 5 _ _ (by omega) rfl rfl;obtain ⟨v5,e5⟩:∃v,ax.tmps.getD 43 undef=v:=⟨_,rfl⟩;rw [e5] at q5;have Q5:=ah q5;clear q5;have q6:bM wD.heap.size wD (ax.tmps.getD 44 undef) (Z) (d) 26 15:=hφ 6 _ _ (by omega) rfl rfl;obtain ⟨v6,e6⟩:∃v,ax.tmps.getD 44 undef=v:=⟨_,rfl⟩;rw [e6] at q6;have Q6:=ah q6;clear q6;obtain ⟨b7,e7,xD,Qy⟩:=hφ 7 _ _ (by omega) rfl rfl;rw [bf hsh [(38,_),(39,_),(40,_),(41,_),(42,_),(43,_),(44,_),(10,_)] [38,39,40,41,42,43,44,10] rfl (by kernel_rfl) ⟨e0,e1,e2,e3,e4,e5,e6,e7,trivial⟩];clear hφ hsh e0 e1 e2 e3 e4 e5 e6 e7;simp only [cB,List.foldl_cons,List.foldl_nil,List.drop_succ_cons,List.drop_zero,Act.put,List.setIfInBounds_toArray,List.set_cons_succ,List.set_cons_zero];have hzD:=hW.size;refine bX wD rfl _ _ rfl b7 rfl rfl Q6.out ⟨_,_,_,_,_,_,_,Qy⟩ ?_;intro wE QY SY;simp only [Act.put];have HKE:=ah ((HKC.out.below hW).wM SY (by omega) (by omega));have AB:=ah ((G5.out.below hW).fE SY.1 (by omega));have hzE:=SY.2.2;have HZE:=ah QY;obtain ⟨nb,hnb⟩:∃nb,nb=b7:=⟨_,rfl⟩;have hnb4:sb<nb∧tb<nb∧w.heap.size+3≤nb∧nb<wE.heap.size:=⟨by omega,by omega,by omega,by have:=QY.any.lt;omega⟩;rw [←hnb] at HZE ⊢;clear hnb hW QY SY Qy HKC G5 Q0 Q5 Q6 HZ xD;have s0:=AB.out.cell (i:=0) rfl;have s1:=AB.out.cell (i:=1) rfl;have s2:=AB.out.cell (i:=2) rfl;have hsl:=AB.out.lt;go_wp2_with fail
       refine (gZ lv 6 _ (by omega) (by omega) (by
                               have:lv.natAbs≤1000000:=by omega
                               exact this)).mono ?_
       rintro e wF ⟨v9,rfl,hq9,MX⟩;obtain ⟨s9,a9,L9,c9,p9,M9,d9,rfl⟩:=fB hq9;have Ot:=ah (HKE.out.below MX);have KV:=ah (AB.out.below MX);have HZF:=ah (HZE.out.below MX);have hzF:=MX.size;have hA9:=(Below.refl wF.heap.size wF).alloc (Nat.le_refl _) (.cells #[.bool s9,.slice a9 L9 c9,.slice p9 M9 d9] 99);have HLG:=ah (show gY (wF.alloc (.cells #[.bool s9,.slice a9 L9 c9,.slice p9 M9 d9] 99)) wF.heap.size lv 1 6 0 from ⟨_,_,_,_,_,_,_,aH.new wF _ _,hq9.up hA9⟩);have HKG:=ah (Ot.out.below hA9);have sN:=ah (KV.out.below hA9);have HZG:=ah (HZF.out.below hA9);clear hq9 MX hA9 HKE AB HZE Ot KV HZF s0 s1 s2 hsl;go_upto_region 10 with fail;obtain ⟨lb,hlb⟩:∃lb,lb=wF.heap.size:=⟨_,rfl⟩;generalize hwG:wF.alloc (.cells #[.bool s9,.slice a9 L9 c9,.slice p9 M9 d9] 99)=wG at *;rw [←hlb] at HLG ⊢;have hlb4:sb<lb∧tb<lb∧nb<lb∧w.heap.size+3≤lb∧lb<wG.heap.size:=⟨by omega,by omega,by omega,by omega,HLG.out.any.lt⟩;clear hwG hlb;obtain ⟨s_z,a_z,L_z,c_z,b_z,M_z,d_z,OV,hr_z⟩:=HZG.out;obtain ⟨xz0,xz1,xz2⟩:=pG OV;have hzl:=OV.lt;have CB:=ah (belowF _ _ _ _ _ _ _ hr_z);clear OV hr_z;have s2:=sN.out.cell (i:=2) rfl;have hsl:=sN.out.lt;by_cases hz0:Z<0
       ·have hp1':T<d*b1:=by omega
        have HV:=ah (JZ.out (by omega));rw [decide_eq_true hz0] at CB;clear JZ EH Hy;go_wp2_with fail;refine CB.out.mono ?_;rintro e wg ⟨rfl,hbg⟩;have HKG:=ah (HKG.out.below hbg);have HLG:=ah (HLG.out.below hbg);clear hbg CB xz0 xz1 xz2 hzl s2 hsl sN HZG;obtain ⟨wG,hwG⟩:∃wG,wG=wg:=⟨_,rfl⟩;subst hwG;go_upto_region 13 with fail;refine aX (by kernel_rfl) 3 (by simp) (by kernel_rfl) (by kernel_rfl) (by kernel_rfl) (by kernel_rfl) (fun jx vx wx=>match jx with | 0=>bM wx.heap.size wx vx (lv) (1) 6 0 | 1=>bM wx.heap.size wx vx (65535) (1) 5 0 | 2=>bM wx.heap.size wx vx (lv) (1*65535) 6 5 | _=>True) (fun W=>Below wG.heap.size wG W) (fun wx wy=>Below wx.heap.size wx wy) (Below.refl _ _).drew ?_ ?_ ?_ ?_
        ·intro jx vx wx wy h g
         match jx,h with
         | 0,h | 1,h | 2,h=>exact bM.up h g
         | jx+3,h=>exact trivial
        ·intro jx ox dx hj ho hd;exact bO (by kernel_rfl) hj ho hd
        ·intro ix ox ax W hi aC hsh hW hpre;have hsz:wG.heap.size≤W.heap.size:=hW.size;have GA:∀ob,Below W.heap.size W (W.alloc ob):=fun ob=>(Below.refl _ _).alloc (Nat.le_refl _) ob;have WA:∀ob,Below wG.heap.size wG (W.alloc ob):=fun ob=>hW.alloc hsz ob;have t11:ax.tmps[11]?.getD undef=(.pointer (some ⟨lb,0,none⟩)):=gT (hsh.2.2 11 (aM (by kernel_rfl)));obtain ⟨s_l,a_l,L_l,c_l,b_l,M_l,d_l,OW,Qt⟩:=(HLG.out.below hW);obtain ⟨xl0,xl1,xl2⟩:=pG OW;clear hsh
         match ix,hi,aC with
         | 0,_,aC=>
          cases aC;exact au (w':=W) (by simp [execOp,Act.eval,t11,xl0,xl1,xl2,go_sem]) ⟨_,rfl,Qt,hW,Below.refl _ _⟩
         | 1,_,aC=>
          cases aC;refine aG (by simp [execOp,Act.eval,go_sem]) ((gZ (65535) 5 W (by omega) (by omega) (by decide)).mono ?_);rintro ex wy ⟨vn,rfl,hq,hb⟩;exact ⟨vn,rfl,_,rfl,hq,hW.trans (hb.mono hsz),hb⟩
         | 2,_,aC=>
          cases aC;obtain ⟨v0,f0,r0⟩:=gR (fun v=>bM W.heap.size W v (lv) (1) 6 0) (hpre ⟨0,.data⟩ (by simp) (by rfl) _ _ rfl rfl);obtain ⟨v1,f1,r1⟩:=gR (fun v=>bM W.heap.size W v (65535) (1) 5 0) (hpre ⟨1,.data⟩ (by simp) (by rfl) _ _ rfl rfl);refine aG (by simp [execOp,Act.eval,f0,f1,go_sem]) (((Kn W.heap.size _ _ 6 0 5 0 _ _ _ _ W (Nat.le_refl _) (by omega) (by omega) (by omega) (by omega) (by omega) (by omega) (by omega) r0 r1).mono (fun _ _ h=>eX h (Int.mul_one _) rfl)).mono ?_);rintro ex wy ⟨vn,rfl,hq,hb⟩;exact ⟨vn,rfl,_,rfl,hq,hW.trans (hb.mono hsz),hb⟩
         | ix+3,hi,_=>exact absurd hi (by omega)
        ·intro ax wGx hsh hW hφ;have q0:bM wGx.heap.size wGx (ax.tmps.getD 80 undef) (lv) (1) 6 0:=hφ 0 _ _ (by omega) rfl rfl;obtain ⟨v0,e0⟩:∃v,ax.tmps.getD 80 undef=v:=⟨_,rfl⟩;rw [e0] at q0;have Q0:=ah q0;clear q0;have q1:bM wGx.heap.size wGx (ax.tmps.getD 81 undef) (65535) (1) 5 0:=hφ 1 _ _ (by omega) rfl rfl;obtain ⟨v1,e1⟩:∃v,ax.tmps.getD 81 undef=v:=⟨_,rfl⟩;rw [e1] at q1;have Q1:=ah q1;clear q1;have q2:bM wGx.heap.size wGx (ax.tmps.getD 82 undef) (lv) (1*65535) 6 5:=hφ 2 _ _ (by omega) rfl rfl;obtain ⟨v2,e2⟩:∃v,ax.tmps.getD 82 undef=v:=⟨_,rfl⟩;rw [e2] at q2;have Q2:=ah q2;clear q2;rw [bf hsh [(80,_),(81,_),(82,_)] [80,81,82] rfl (by kernel_rfl) ⟨e0,e1,e2,trivial⟩];clear hφ hsh e0 e1 e2;simp only [cB,List.foldl_cons,List.foldl_nil,List.drop_succ_cons,List.drop_zero,Act.put,List.setIfInBounds_toArray,List.set_cons_succ,List.set_cons_zero];have HKn:=ah (HKG.out.below hW);clear hW;refine bX wGx rfl _ _ rfl (w.heap.size+2) rfl rfl Q2.out HKn.out.2.1 ?_;intro wGy QY SY;simp only [Act.put];have gu:=ah (aY HKn.out.2.2.2.2 SY.1 HKn.out.2.2.2.2.size (by omega));obtain ⟨s8,a8,L8,c8,b8,M8,d8,oO,Bc⟩:=QY;have x0:=oO.cell (i:=0) rfl;have x1:=oO.cell (i:=1) rfl;have x2:=oO.cell (i:=2) rfl;have HR8:=ah (Bc.wide (m':=40) (n':=40) (by omega) (by omega));clear Bc oO SY;go_wp2_with fail;exact bodyPost_ret (v:=.agg #[.bool s8,.slice a8 L8 c8,.slice b8 M8 d8]) (by simp [results,Tryz.results88,go_sem,x0,x1,x2]) rfl ⟨_,_,_,rfl,HR8.out,by rw [HV.out];show lv*65535=lv*((1*65535:Nat):Int);rfl,gu.out⟩
       ·have hp1':¬T<d*b1:=by omega
        have HV:=ah (EH.out (by omega) (by omega));rw [decide_eq_false hz0] at CB
        have hfp:0<bG:=by
         rcases Int.lt_or_le 0 bG with h | h
         ·exact h
         ·exfalso;have:bG=0:=by omega
          subst this;rw [Int.add_zero] at hp2';exact hp1' hp2'
        go_wp2_with fail;refine CB.out.mono ?_;rintro e wg ⟨rfl,hbg⟩;have HKG:=ah (HKG.out.below hbg);have HLG:=ah (HLG.out.below hbg);have HZG:=ah (HZG.out.below hbg);have sN:=ah (sN.out.below hbg);have hzg:=hbg.size;clear hbg CB xz0 xz1 xz2 hzl s2 hsl JZ EH Hy;have s2:=sN.out.cell (i:=2) rfl;have hsl:=sN.out.lt;go_upto_region 11 with fail;clear s2 hsl;have hL0:0<l.length:=by omega
        have am:((j:Int)+1).tmod (l.length:Int)=(nj:Int):=by
         rw [←HNJ.out,Int.tmod_eq_emod_of_nonneg (by omega)];rfl
        have aj:IntKind.i64.wrap ((j:Int)+1)=(j:Int)+1:=IntWalk.i64_in _ (by omega);have am2:IntKind.i64.wrap (nj:Int)=(nj:Int):=IntWalk.i64_in _ (by omega);have Qv:(nj:Int)<(l.length:Int):=by omega
        have Qu:nj<l.length:=Gc;have hl0:¬((l.length:Int)=0):=by omega
        have QB:¬l=[]:=by intro h;subst h;simp at hL0
        refine aX (by kernel_rfl) 12 (by simp) (by kernel_rfl) (by kernel_rfl) (by kernel_rfl) (by kernel_rfl) (fun jx vx wx=>match jx with | 0=>vx=(.pointer (some ⟨w.heap.size,8,none⟩)) | 1=>vx=(.slice (some ⟨sp,off,none⟩) l.length cap) | 2=>vx=(.int .i64 (j:Int)) | 3=>vx=(.int .i64 ((j:Int)+1)) | 4=>vx=(.pointer (some ⟨w.heap.size,8,none⟩)) | 5=>vx=(.slice (some ⟨sp,off,none⟩) l.length cap) | 6=>vx=(.int .i64 (l.length:Int)) | 7=>vx=(.int .i64 (nj:Int)) | 8=>vx=(.pointer (some ⟨sp,off+nj*3,none⟩)) | 9=>vx=(.pointer (some ⟨sp,off+nj*3,none⟩)) | 10=>vx=(.int .i64 kT) | 11=>vx=(.int .i64 kT) | _=>True) (fun W=>Below wg.heap.size wg W) (fun wx wy=>Below wx.heap.size wx wy) (Below.refl _ _).drew ?_ ?_ ?_ ?_
        ·intro jx vx wx wy h g
         match jx,h with
         | 0,h | 1,h | 2,h | 3,h | 4,h | 5,h | 6,h | 7,h | 8,h | 9,h | 10,h | 11,h=>exact h
         | jx+12,h=>exact trivial
        ·intro jx ox dx hj ho hd;exact bO (by kernel_rfl) hj ho hd
        ·intro ix ox ax W hi aC hsh hW hpre;have hsz:wg.heap.size≤W.heap.size:=hW.size;have GA:∀ob,Below W.heap.size W (W.alloc ob):=fun ob=>(Below.refl _ _).alloc (Nat.le_refl _) ob;have WA:∀ob,Below wg.heap.size wg (W.alloc ob):=fun ob=>hW.alloc hsz ob;have t2:ax.tmps[2]?.getD undef=(.pointer (some ⟨w.heap.size,0,none⟩)):=gT (hsh.2.2 2 (aM (by kernel_rfl)));have t7:ax.tmps[7]?.getD undef=(.int .i64 (j:Int)):=gT (hsh.2.2 7 (aM (by kernel_rfl)));have e8:=(HKG.out.below hW).1.cell (i:=8) rfl;obtain ⟨e0,e1,e2⟩:=HYC.out;have y0:=((HKG.out.below hW).2.2.2.2.cell (p:=⟨sp,off+nj*3,none⟩) hsb).trans e0;clear hsh
         match ix,hi,aC with
         | 0,_,aC=>
          cases aC;exact au (w':=W) (by simp [execOp,Act.eval,t2,go_sem]) (aS hW)
         | 1,_,aC=>
          cases aC;have f0:=gT (hpre ⟨0,.data⟩ (by simp) (by rfl) _ _ rfl rfl);exact au (w':=W) (by simp [execOp,Act.eval,e8,f0,go_sem]) (aS hW)
         | 2,_,aC=>
          cases aC;exact au (w':=W) (by simp [execOp,Act.eval,t7,go_sem]) (aS hW)
         | 3,_,aC=>
          cases aC;have f2:=gT (hpre ⟨2,.data⟩ (by simp) (by rfl) _ _ rfl rfl);exact au (w':=W) (by simp [execOp,Act.eval,aj,f2,go_sem]) (aS hW)
         | 4,_,aC=>
          cases aC;exact au (w':=W) (by simp [execOp,Act.eval,t2,go_sem]) (aS hW)
         | 5,_,aC=>
          cases aC;have f4:=gT (hpre ⟨4,.data⟩ (by simp) (by rfl) _ _ rfl rfl);exact au (w':=W) (by simp [execOp,Act.eval,e8,f4,go_sem]) (aS hW)
         | 6,_,aC=>
          cases aC;have f5:=gT (hpre ⟨5,.data⟩ (by simp) (by rfl) _ _ rfl rfl);exact au (w':=W) (by simp [execOp,Act.eval,f5,go_sem]) (aS hW)
         | 7,_,aC=>
          cases aC;have f3:=gT (hpre ⟨3,.data⟩ (by simp) (by rfl) _ _ rfl rfl);have f6:=gT (hpre ⟨6,.data⟩ (by simp) (by rfl) _ _ rfl rfl);exact au (w':=W) (by simp [execOp,Act.eval,am,am2,hl0,QB,f3,f6,go_sem]) (aS hW)
         | 8,_,aC=>
          cases aC;have f1:=gT (hpre ⟨1,.data⟩ (by simp) (by rfl) _ _ rfl rfl);have f7:=gT (hpre ⟨7,.data⟩ (by simp) (by rfl) _ _ rfl rfl);exact au (w':=W) (by simp [execOp,Act.eval,Qv,Qu,f1,f7,go_sem]) (aS hW)
         | 9,_,aC=>
          cases aC;have f8:=gT (hpre ⟨8,.data⟩ (by simp) (by rfl) _ _ rfl rfl);exact au (w':=W) (by simp [execOp,Act.eval,f8,go_sem]) (aS hW)
         | 10,_,aC=>
          cases aC;have f9:=gT (hpre ⟨9,.data⟩ (by simp) (by rfl) _ _ rfl rfl);exact au (w':=W) (by simp [execOp,Act.eval,y0,f9,go_sem]) (aS hW)
         | 11,_,aC=>
          cases aC;have f10:=gT (hpre ⟨10,.data⟩ (by simp) (by rfl) _ _ rfl rfl);exact au (w':=W) (by simp [execOp,Act.eval,f10,go_sem]) (aS hW)
         | ix+12,hi,_=>exact absurd hi (by omega)
        ·intro ax wh hsh hW hφ;have e0:=hφ 0 _ _ (by omega) rfl rfl;have e1:=hφ 1 _ _ (by omega) rfl rfl;have e2:=hφ 2 _ _ (by omega) rfl rfl;have e3:=hφ 3 _ _ (by omega) rfl rfl;have e4:=hφ 4 _ _ (by omega) rfl rfl;have e5:=hφ 5 _ _ (by omega) rfl rfl;have e6:=hφ 6 _ _ (by omega) rfl rfl;have e7:=hφ 7 _ _ (by omega) rfl rfl;have e8:=hφ 8 _ _ (by omega) rfl rfl;have e9:=hφ 9 _ _ (by omega) rfl rfl;have e10:=hφ 10 _ _ (by omega) rfl rfl;have e11:=hφ 11 _ _ (by omega) rfl rfl;rw [bf hsh [(56,_),(57,_),(58,_),(59,_),(60,_),(61,_),(62,_),(63,_),(64,_),(65,_),(66,_),(12,_)] [56,57,58,59,60,61,62,63,64,65,66,12] rfl (by kernel_rfl) ⟨e0,e1,e2,e3,e4,e5,e6,e7,e8,e9,e10,e11,trivial⟩];clear hφ hsh e0 e1 e2 e3 e4 e5 e6 e7 e8 e9 e10 e11;simp only [cB,List.foldl_cons,List.foldl_nil,List.drop_succ_cons,List.drop_zero,Act.put,List.setIfInBounds_toArray,List.set_cons_succ,List.set_cons_zero];have HKH:=ah (HKG.out.below hW);have HLH:=ah (HLG.out.below hW);have HZH:=ah (HZG.out.below hW);have HSH:=ah (sN.out.below hW);have hzh:=hW.size;clear hW HKG HLG HZG sN am aj am2 Qv Qu hl0 QB
         have h6:(kT-lv).natAbs≤10 ^ 6:=by
          have:(kT-lv).natAbs≤1000000:=by omega
          exact this
         have h7:bG.natAbs≤10 ^ 7:=by
          have:bG.natAbs≤10000000:=by omega
          exact this
         have aw3:IntKind.i64.wrap (kT-lv)=kT-lv:=IntWalk.i64_in _ (by omega);obtain ⟨PL,hPL⟩:∃PL,PL=lv*((d*bG.toNat:Nat):Int)+(kT-lv)*Z*((1:Nat):Int):=⟨_,rfl⟩;have HPL:=ah hPL.symm;have HRAT:=ah (NM hfp hPL hZ2);clear hPL;go_upto_region 12 with fail;refine aX (by kernel_rfl) 13 (by simp) (by kernel_rfl) (by kernel_rfl) (by kernel_rfl) (by kernel_rfl) (fun jx vx wx=>match jx with | 0=>bM wx.heap.size wx vx (lv) (1) 6 0 | 1=>vx=(.int .i64 kT) | 2=>vx=(.pointer (some ⟨sb,0,none⟩)) | 3=>vx=(.int .i64 lv) | 4=>vx=(.int .i64 (kT-lv)) | 5=>bM wx.heap.size wx vx (kT-lv) (1) 6 0 | 6=>bM wx.heap.size wx vx (Z) (d) 26 15 | 7=>bM wx.heap.size wx vx ((kT-lv)*Z) (d) 32 15 | 8=>vx=(.pointer (some ⟨sb,2,none⟩)) | 9=>vx=(.int .i64 bG) | 10=>bM wx.heap.size wx vx (bG) (1) 7 0 | 11=>bM wx.heap.size wx vx ((kT-lv)*Z) (d*bG.toNat) 32 22 | 12=>bM wx.heap.size wx vx (PL) (d*bG.toNat) 33 22 | _=>True) (fun W=>Below wh.heap.size wh W) (fun wx wy=>Below wx.heap.size wx wy) (Below.refl _ _).drew ?_ ?_ ?_ ?_
         ·intro jx vx wx wy h g
          match jx,h with
          | 0,h | 5,h | 6,h | 7,h | 10,h | 11,h | 12,h=>exact bM.up h g
          | 1,h | 2,h | 3,h | 4,h | 8,h | 9,h=>exact h
          | jx+13,h=>exact trivial
         ·intro jx ox dx hj ho hd;exact bO (by kernel_rfl) hj ho hd
         ·intro ix ox ax W hi aC hsh hW hpre;have hsz:wh.heap.size≤W.heap.size:=hW.size;have GA:∀ob,Below W.heap.size W (W.alloc ob):=fun ob=>(Below.refl _ _).alloc (Nat.le_refl _) ob;have WA:∀ob,Below wh.heap.size wh (W.alloc ob):=fun ob=>hW.alloc hsz ob;have t8:ax.tmps[8]?.getD undef=(.pointer (some ⟨sb,0,none⟩)):=gT (hsh.2.2 8 (aM (by kernel_rfl)));have t10:ax.tmps[10]?.getD undef=(.pointer (some ⟨nb,0,none⟩)):=gT (hsh.2.2 10 (aM (by kernel_rfl)));have t11:ax.tmps[11]?.getD undef=(.pointer (some ⟨lb,0,none⟩)):=gT (hsh.2.2 11 (aM (by kernel_rfl)));have t12:ax.tmps[12]?.getD undef=(.int .i64 kT):=gT (hsh.2.2 12 (aM (by kernel_rfl)));obtain ⟨s_l,a_l,L_l,c_l,b_l,M_l,d_l,OW,Qt⟩:=(HLH.out.below hW);obtain ⟨xl0,xl1,xl2⟩:=pG OW;obtain ⟨s_z,a_z,L_z,c_z,b_z,M_z,d_z,OV,hr_z⟩:=(HZH.out.below hW);obtain ⟨xz0,xz1,xz2⟩:=pG OV;have s0:=(HSH.out.below hW).cell (i:=0) rfl;have s1:=(HSH.out.below hW).cell (i:=1) rfl;have s2:=(HSH.out.below hW).cell (i:=2) rfl;clear hsh
          match ix,hi,aC with
          | 0,_,aC=>
           cases aC;exact au (w':=W) (by simp [execOp,Act.eval,t11,xl0,xl1,xl2,go_sem]) ⟨_,rfl,Qt,hW,Below.refl _ _⟩
          | 1,_,aC=>
           cases aC;exact au (w':=W) (by simp [execOp,Act.eval,t12,go_sem]) (aS hW)
          | 2,_,aC=>
           cases aC;exact au (w':=W) (by simp [execOp,Act.eval,t8,go_sem]) (aS hW)
          | 3,_,aC=>
           cases aC;have f2:=gT (hpre ⟨2,.data⟩ (by simp) (by rfl) _ _ rfl rfl);exact au (w':=W) (by simp [execOp,Act.eval,s0,f2,go_sem]) (aS hW)
          | 4,_,aC=>
           cases aC;have f1:=gT (hpre ⟨1,.data⟩ (by simp) (by rfl) _ _ rfl rfl);have f3:=gT (hpre ⟨3,.data⟩ (by simp) (by rfl) _ _ rfl rfl);exact au (w':=W) (by simp [execOp,Act.eval,aw3,f1,f3,go_sem]) (aS hW)
          | 5,_,aC=>
           cases aC;have f4:=gT (hpre ⟨4,.data⟩ (by simp) (by rfl) _ _ rfl rfl);refine aG (by simp [execOp,Act.eval,f4,go_sem]) ((gZ (kT-lv) 6 W (by omega) (by omega) h6).mono ?_);rintro ex wy ⟨vn,rfl,hq,hb⟩;exact ⟨vn,rfl,_,rfl,hq,hW.trans (hb.mono hsz),hb⟩
          | 6,_,aC=>
           cases aC;exact au (w':=W) (by simp [execOp,Act.eval,t10,xz0,xz1,xz2,go_sem]) ⟨_,rfl,hr_z,hW,Below.refl _ _⟩
          | 7,_,aC=>
           cases aC;obtain ⟨v5,f5,r5⟩:=gR (fun v=>bM W.heap.size W v (kT-lv) (1) 6 0) (hpre ⟨5,.data⟩ (by simp) (by rfl) _ _ rfl rfl);obtain ⟨v6,f6,r6⟩:=gR (fun v=>bM W.heap.size W v (Z) (d) 26 15) (hpre ⟨6,.data⟩ (by simp) (by rfl) _ _ rfl rfl);refine aG (by simp [execOp,Act.eval,f5,f6,go_sem]) (((uy W.heap.size _ _ 6 0 26 15 _ _ _ _ W (Nat.le_refl _) (by omega) (by omega) r5 r6).mono (fun _ _ h=>eX h rfl (Nat.one_mul _))).mono ?_);rintro ex wy ⟨vn,rfl,hq,hb⟩;exact ⟨vn,rfl,_,rfl,hq,hW.trans (hb.mono hsz),hb⟩
          | 8,_,aC=>
           cases aC;exact au (w':=W) (by simp [execOp,Act.eval,t8,go_sem]) (aS hW)
          | 9,_,aC=>
           cases aC;have f8:=gT (hpre ⟨8,.data⟩ (by simp) (by rfl) _ _ rfl rfl);exact au (w':=W) (by simp [execOp,Act.eval,s2,f8,go_sem]) (aS hW)
          | 10,_,aC=>
           cases aC;have f9:=gT (hpre ⟨9,.data⟩ (by simp) (by rfl) _ _ rfl rfl);refine aG (by simp [execOp,Act.eval,f9,go_sem]) ((gZ (bG) 7 W (by omega) (by omega) h7).mono ?_);rintro ex wy ⟨vn,rfl,hq,hb⟩;exact ⟨vn,rfl,_,rfl,hq,hW.trans (hb.mono hsz),hb⟩
          | 11,_,aC=>
           cases aC;obtain ⟨v7,f7,r7⟩:=gR (fun v=>bM W.heap.size W v ((kT-lv)*Z) (d) 32 15) (hpre ⟨7,.data⟩ (by simp) (by rfl) _ _ rfl rfl);obtain ⟨v10,f10,r10⟩:=gR (fun v=>bM W.heap.size W v (bG) (1) 7 0) (hpre ⟨10,.data⟩ (by simp) (by rfl) _ _ rfl rfl);refine aG (by simp [execOp,Act.eval,f7,f10,go_sem]) (((Kn W.heap.size _ _ 32 15 7 0 _ _ _ _ W (Nat.le_refl _) (by omega) (by omega) (by omega) (by omega) (by omega) (by omega) hfp r7 r10).mono (fun _ _ h=>eX h (Int.mul_one _) rfl)).mono ?_);rintro ex wy ⟨vn,rfl,hq,hb⟩;exact ⟨vn,rfl,_,rfl,hq,hW.trans (hb.mono hsz),hb⟩
          | 12,_,aC=>
           cases aC;obtain ⟨v0,f0,r0⟩:=gR (fun v=>bM W.heap.size W v (lv) (1) 6 0) (hpre ⟨0,.data⟩ (by simp) (by rfl) _ _ rfl rfl);obtain ⟨v11,f11,r11⟩:=gR (fun v=>bM W.heap.size W v ((kT-lv)*Z) (d*bG.toNat) 32 22) (hpre ⟨11,.data⟩ (by simp) (by rfl) _ _ rfl rfl);refine aG (by simp [execOp,Act.eval,f0,f11,go_sem]) (((BR W.heap.size _ _ 6 0 32 22 33 _ _ _ _ W (Nat.le_refl _) (by omega) (by omega) (by omega) (by omega) r0 r11).mono (fun _ _ h=>eX h HPL.out (Nat.one_mul _))).mono ?_);rintro ex wy ⟨vn,rfl,hq,hb⟩;exact ⟨vn,rfl,_,rfl,hq,hW.trans (hb.mono hsz),hb⟩
          | ix+13,hi,_=>exact absurd hi (by omega)
         ·intro ax wj hsh hW hφ;have q0:bM wj.heap.size wj (ax.tmps.getD 67 undef) (lv) (1) 6 0:=hφ 0 _ _ (by omega) rfl rfl;obtain ⟨v0,e0⟩:∃v,ax.tmps.getD 67 undef=v:=⟨_,rfl⟩;rw [e0] at q0;have Q0:=ah q0;clear q0;have e1:=hφ 1 _ _ (by omega) rfl rfl;have e2:=hφ 2 _ _ (by omega) rfl rfl;have e3:=hφ 3 _ _ (by omega) rfl rfl;have e4:=hφ 4 _ _ (by omega) rfl rfl;have q5:bM wj.heap.size wj (ax.tmps.getD 72 undef) (kT-lv) (1) 6 0:=hφ 5 _ _ (by omega) rfl rfl;obtain ⟨v5,e5⟩:∃v,ax.tmps.getD 72 undef=v:=⟨_,rfl⟩;rw [e5] at q5;have Q5:=ah q5;clear q5;have q6:bM wj.heap.size wj (ax.tmps.getD 73 undef) (Z) (d) 26 15:=hφ 6 _ _ (by omega) rfl rfl;obtain ⟨v6,e6⟩:∃v,ax.tmps.getD 73 undef=v:=⟨_,rfl⟩;rw [e6] at q6;have Q6:=ah q6;clear q6;have q7:bM wj.heap.size wj (ax.tmps.getD 74 undef) ((kT-lv)*Z) (d) 32 15:=hφ 7 _ _ (by omega) rfl rfl;obtain ⟨v7,e7⟩:∃v,ax.tmps.getD 74 undef=v:=⟨_,rfl⟩;rw [e7] at q7;have Q7:=ah q7;clear q7;have e8:=hφ 8 _ _ (by omega) rfl rfl;have e9:=hφ 9 _ _ (by omega) rfl rfl;have kS:bM wj.heap.size wj (ax.tmps.getD 77 undef) (bG) (1) 7 0:=hφ 10 _ _ (by omega) rfl rfl;obtain ⟨v10,e10⟩:∃v,ax.tmps.getD 77 undef=v:=⟨_,rfl⟩;rw [e10] at kS;have Q10:=ah kS;clear kS;have l7:bM wj.heap.size wj (ax.tmps.getD 78 undef) ((kT-lv)*Z) (d*bG.toNat) 32 22:=hφ 11 _ _ (by omega) rfl rfl;obtain ⟨v11,e11⟩:∃v,ax.tmps.getD 78 undef=v:=⟨_,rfl⟩;rw [e11] at l7;have RD:=ah l7;clear l7;have nk:bM wj.heap.size wj (ax.tmps.getD 79 undef) (PL) (d*bG.toNat) 33 22:=hφ 12 _ _ (by omega) rfl rfl;obtain ⟨v12,e12⟩:∃v,ax.tmps.getD 79 undef=v:=⟨_,rfl⟩;rw [e12] at nk;have Q12:=ah nk;clear nk;rw [bf hsh [(67,_),(68,_),(69,_),(70,_),(71,_),(72,_),(73,_),(74,_),(75,_),(76,_),(77,_),(78,_),(79,_)] [67,68,69,70,71,72,73,74,75,76,77,78,79] rfl (by kernel_rfl) ⟨e0,e1,e2,e3,e4,e5,e6,e7,e8,e9,e10,e11,e12,trivial⟩];clear hφ hsh e0 e1 e2 e3 e4 e5 e6 e7 e8 e9 e10 e11 e12;simp only [cB,List.foldl_cons,List.foldl_nil,List.drop_succ_cons,List.drop_zero,Act.put,List.setIfInBounds_toArray,List.set_cons_succ,List.set_cons_zero];have hzj:=hW.size;refine bX wj rfl _ _ rfl lb rfl rfl Q12.out (HLH.out.below hW).any ?_;intro wI QY SY;simp only [Act.put];have HKI:=ah ((HKH.out.below hW).wM SY (by omega) (by omega));have HLI:=ah QY;clear hW QY SY HKH HLH HZH HSH Q0 Q5 Q6 Q7 Q10 RD Q12 HPL aw3;go_upto_region 13 with fail;refine aX (by kernel_rfl) 3 (by simp) (by kernel_rfl) (by kernel_rfl) (by kernel_rfl) (by kernel_rfl) (fun jx vx wx=>match jx with | 0=>bM wx.heap.size wx vx (PL) (d*bG.toNat) 33 22 | 1=>bM wx.heap.size wx vx (65535) (1) 5 0 | 2=>bM wx.heap.size wx vx (PL) (d*bG.toNat*65535) 33 27 | _=>True) (fun W=>Below wI.heap.size wI W) (fun wx wy=>Below wx.heap.size wx wy) (Below.refl _ _).drew ?_ ?_ ?_ ?_
          ·intro jx vx wx wy h g
           match jx,h with
           | 0,h | 1,h | 2,h=>exact bM.up h g
           | jx+3,h=>exact trivial
          ·intro jx ox dx hj ho hd;exact bO (by kernel_rfl) hj ho hd
          ·intro ix ox ax W hi aC hsh hW hpre;have hsz:wI.heap.size≤W.heap.size:=hW.size;have GA:∀ob,Below W.heap.size W (W.alloc ob):=fun ob=>(Below.refl _ _).alloc (Nat.le_refl _) ob;have WA:∀ob,Below wI.heap.size wI (W.alloc ob):=fun ob=>hW.alloc hsz ob;have t11:ax.tmps[11]?.getD undef=(.pointer (some ⟨lb,0,none⟩)):=gT (hsh.2.2 11 (aM (by kernel_rfl)));obtain ⟨s_l,a_l,L_l,c_l,b_l,M_l,d_l,OW,Qt⟩:=(HLI.out.below hW);obtain ⟨xl0,xl1,xl2⟩:=pG OW;clear hsh
           match ix,hi,aC with
           | 0,_,aC=>
            cases aC;exact au (w':=W) (by simp [execOp,Act.eval,t11,xl0,xl1,xl2,go_sem]) ⟨_,rfl,Qt,hW,Below.refl _ _⟩
           | 1,_,aC=>
            cases aC;refine aG (by simp [execOp,Act.eval,go_sem]) ((gZ (65535) 5 W (by omega) (by omega) (by decide)).mono ?_);rintro ex wy ⟨vn,rfl,hq,hb⟩;exact ⟨vn,rfl,_,rfl,hq,hW.trans (hb.mono hsz),hb⟩
           | 2,_,aC=>
            cases aC;obtain ⟨v0,f0,r0⟩:=gR (fun v=>bM W.heap.size W v (PL) (d*bG.toNat) 33 22) (hpre ⟨0,.data⟩ (by simp) (by rfl) _ _ rfl rfl);obtain ⟨v1,f1,r1⟩:=gR (fun v=>bM W.heap.size W v (65535) (1) 5 0) (hpre ⟨1,.data⟩ (by simp) (by rfl) _ _ rfl rfl);refine aG (by simp [execOp,Act.eval,f0,f1,go_sem]) (((Kn W.heap.size _ _ 33 22 5 0 _ _ _ _ W (Nat.le_refl _) (by omega) (by omega) (by omega) (by omega) (by omega) (by omega) (by omega) r0 r1).mono (fun _ _ h=>eX h (Int.mul_one _) rfl)).mono ?_);rintro ex wy ⟨vn,rfl,hq,hb⟩;exact ⟨vn,rfl,_,rfl,hq,hW.trans (hb.mono hsz),hb⟩
           | ix+3,hi,_=>exact absurd hi (by omega)
          ·intro ax wIx hsh hW hφ;have q0:bM wIx.heap.size wIx (ax.tmps.getD 80 undef) (PL) (d*bG.toNat) 33 22:=hφ 0 _ _ (by omega) rfl rfl;obtain ⟨v0,e0⟩:∃v,ax.tmps.getD 80 undef=v:=⟨_,rfl⟩;rw [e0] at q0;have Q0:=ah q0;clear q0;have q1:bM wIx.heap.size wIx (ax.tmps.getD 81 undef) (65535) (1) 5 0:=hφ 1 _ _ (by omega) rfl rfl;obtain ⟨v1,e1⟩:∃v,ax.tmps.getD 81 undef=v:=⟨_,rfl⟩;rw [e1] at q1;have Q1:=ah q1;clear q1;have q2:bM wIx.heap.size wIx (ax.tmps.getD 82 undef) (PL) (d*bG.toNat*65535) 33 27:=hφ 2 _ _ (by omega) rfl rfl;obtain ⟨v2,e2⟩:∃v,ax.tmps.getD 82 undef=v:=⟨_,rfl⟩;rw [e2] at q2;have Q2:=ah q2;clear q2;rw [bf hsh [(80,_),(81,_),(82,_)] [80,81,82] rfl (by kernel_rfl) ⟨e0,e1,e2,trivial⟩];clear hφ hsh e0 e1 e2;simp only [cB,List.foldl_cons,List.foldl_nil,List.drop_succ_cons,List.drop_zero,Act.put,List.setIfInBounds_toArray,List.set_cons_succ,List.set_cons_zero];have HKn:=ah (HKI.out.below hW);clear hW;refine bX wIx rfl _ _ rfl (w.heap.size+2) rfl rfl Q2.out HKn.out.2.1 ?_;intro wIy QY SY;simp only [Act.put];have gu:=ah (aY HKn.out.2.2.2.2 SY.1 HKn.out.2.2.2.2.size (by omega));obtain ⟨s8,a8,L8,c8,b8,M8,d8,oO,Bc⟩:=QY;have x0:=oO.cell (i:=0) rfl;have x1:=oO.cell (i:=1) rfl;have x2:=oO.cell (i:=2) rfl;have HR8:=ah (Bc.wide (m':=40) (n':=40) (by omega) (by omega));clear Bc oO SY;go_wp2_with fail;exact bodyPost_ret (v:=.agg #[.bool s8,.slice a8 L8 c8,.slice b8 M8 d8]) (by simp [results,Tryz.results88,go_sem,x0,x1,x2]) rfl ⟨_,_,_,rfl,HR8.out,by rw [HV.out];exact HRAT.out,gu.out⟩
   ·have hjj:j=l.length:=by omega
    subst hjj;have HV:=ah (show RES=(0,1) by rw [HR.out,Nat.sub_self];rfl);clear HR;go_wp2_with fail;refine (gZ 0 1 _ (by omega) (by omega) (by decide)).mono ?_;rintro e wa ⟨va,rfl,wY,hba⟩;have sO:=ah (HK.out.below hba);obtain ⟨s8,a8,L8,c8,b8,M8,d8,rfl⟩:=fB wY;have HQ8:=ah wY;clear hba wY HK;obtain ⟨s7,a7,L7,c7,b7,M7,d7,tb7⟩:=sO.out.2.1;have hlr:=tb7.lt;have x0:wa.cell? ⟨w.heap.size+1+1,0,none⟩=_:=tb7.cell (i:=0) rfl;have x1:wa.cell? ⟨w.heap.size+1+1,1,none⟩=_:=tb7.cell (i:=1) rfl;have x2:wa.cell? ⟨w.heap.size+1+1,2,none⟩=_:=tb7.cell (i:=2) rfl;have f0:wa.frozen? ⟨w.heap.size+1+1,0,none⟩=_:=tb7.frozen 0;have f1:wa.frozen? ⟨w.heap.size+1+1,1,none⟩=_:=tb7.frozen 1;have f2:wa.frozen? ⟨w.heap.size+1+1,2,none⟩=_:=tb7.frozen 2;have HS8:=ah ((uD (w:=wa) (g:=w.heap.size+1+1) ⟨_,_,_,_,_,_,_,tb7⟩ (.bool s8) (.slice a8 L8 c8) (.slice b8 M8 d8)).2);clear tb7;go_wp2_with fail;refine bodyPost_ret (v:=.agg #[.bool s8,.slice a8 L8 c8,.slice b8 M8 d8]) (by simp [results,Tryz.results88,go_sem,x0,x1,x2]) rfl ⟨_,0,1,rfl,?_,by rw [HV.out];rfl,bN sO.out.2.2.2.2 (by omega)⟩;rw [HS8.out.2];exact HS8.out.1 _ _ _ _ _ _ (HQ8.out.wide (by omega) (by omega))
end Go.Proofs.YtopmdeefcjdadaaGreat
