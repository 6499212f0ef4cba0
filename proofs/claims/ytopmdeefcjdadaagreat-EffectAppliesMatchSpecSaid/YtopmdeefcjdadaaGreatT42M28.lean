import Derived.Test.YtopmdeefcjdadaaGreatT42M00
import Derived.Test.YtopmdeefcjdadaaGreatT42M27
import Derived.Test.YtopmdeefcjdadaaGreatT42M25
import Derived.Deep.DeepCutAuto
set_option linter.unusedVariables false
set_option linter.unusedSimpArgs false
set_option maxRecDepth 100000
set_option maxHeartbeats 32000000
namespace Go.Proofs.YtopmdeefcjdadaaGreat
open Go.RowKit
def ED (w:World) (E:Array Value) (xb ob:Nat) (x:Int) (d:Nat) (W:World):Prop:=aH W w.heap.size 28 E∧AnyQ W (w.heap.size+1)∧gY W xb x d 15 15∧gY W ob 1 1 1 0∧(w.heap.size+2≤xb∧w.heap.size+2≤ob∧xb≠ob)∧Below w.heap.size w W
section
variable {w W W':World} {E:Array Value} {xb ob g d:Nat} {x x':Int}
theorem ED.below (h:ED w E xb ob x d W) (hb:Below W.heap.size W W'):ED w E xb ob x d W':=by
 obtain ⟨h1,h2,h3,h4,h5,h6⟩:=h;exact ⟨h1.below hb,h2.below hb,h3.below hb,h4.below hb,h5,h6.trans (hb.mono h6.size)⟩
theorem ED.wM (h:ED w E xb ob x d W) (hs:Stq W g W') (h1:w.heap.size+2≤g) (h2:xb≠g) (h3:ob≠g):ED w E xb ob x d W':=by
 obtain ⟨k1,k2,k3,k4,k5,k6⟩:=h;exact ⟨k1.fE hs.1 (by omega),k2.wM hs (by omega),k3.wM hs h2,k4.wM hs h3,k5,aY k6 hs.1 k6.size (by omega)⟩
theorem ED.stx (h:ED w E xb ob x d W) (hs:Stq W xb W') (hq:gY W' xb x' d 15 15):ED w E xb ob x' d W':=by
 obtain ⟨k1,k2,k3,k4,k5,k6⟩:=h;exact ⟨k1.fE hs.1 (by omega),k2.wM hs (by omega),hq,k4.wM hs (by omega),k5,aY k6 hs.1 k6.size (by omega)⟩
theorem ED.size (h:ED w E xb ob x d W):w.heap.size+2≤W.heap.size∧xb<W.heap.size∧ob<W.heap.size:=by
 obtain ⟨k1,k2,k3,k4,k5,k6⟩:=h;have:=k3.any.lt;have:=k4.any.lt;omega
end
theorem AnyQ.q0 {g:Nat} {W:World} (h:AnyQ W g):∃s ao L cap bo M cap2,aH W g 99 #[.bool s,.slice ao L cap,.slice bo M cap2]∧True:=by
 obtain ⟨s,ao,L,cap,bo,M,cap2,h1⟩:=h;exact ⟨s,ao,L,cap,bo,M,cap2,h1,trivial⟩
theorem gY.wide {w:World} {g D m n m' n':Nat} {P:Int} (h:gY w g P D m n) (hm:m≤m') (hn:n≤n'):gY w g P D m' n':=by
 obtain ⟨s,ao,L,cap,bo,M,cap2,h1,h2⟩:=h;exact ⟨s,ao,L,cap,bo,M,cap2,h1,h2.wide hm hn⟩
theorem up_ord {pn:Int} {d:Nat} (hd:0<d):(qp (2*pn*d*((1:Nat):Int)-1*((d*d:Nat):Int))=1∧(d:Int)<2*pn)∨(qp (2*pn*d*((1:Nat):Int)-1*((d*d:Nat):Int))=0∧¬(d:Int)<2*pn)∨(qp (2*pn*d*((1:Nat):Int)-1*((d*d:Nat):Int))=-1∧¬(d:Int)<2*pn):=by
 have e:2*pn*(d:Int)*((1:Nat):Int)-1*((d*d:Nat):Int)=(2*pn-d)*(d:Int):=by
  push_cast;grind
 rw [e];have hd':(0:Int)<(d:Int):=by omega
 unfold qp;rcases Int.lt_trichotomy (2*pn-d) 0 with c | c | c
 ·have h1:=Int.mul_neg_of_neg_of_pos c hd';right;right
  rw [if_neg (by omega),if_pos h1];exact ⟨rfl,by omega⟩
 ·right;left
  rw [c,Int.zero_mul,if_pos rfl];exact ⟨rfl,by omega⟩
 ·have h1:=Int.mul_pos c hd';left
  rw [if_neg (by omega),if_neg (by omega)];exact ⟨rfl,by omega⟩
theorem rat1 {u:Int} {d:Nat}:u*(d:Int)*(d:Int)=u*((d*d:Nat):Int):=by
 rw [Int.natCast_mul,Int.mul_assoc]
section
variable (ay:Int) (l:List Stp) (c pn pd pk aL:Int)
theorem wv1:oK 1 ay l c pn pd pk aL=(aU pn pd,pd):=by unfold oK;rw [if_pos rfl]
theorem wv2:oK 2 ay l c pn pd pk aL=(pn,pd):=by unfold oK;rw [if_neg (by decide),if_pos rfl]
theorem wv3:oK 3 ay l c pn pd pk aL=(pd-pn,pd):=by unfold oK;rw [if_neg (by decide),if_neg (by decide),if_pos rfl]
theorem wv4:oK 4 ay l c pn pd pk aL=(qY ay pn pd,1):=by unfold oK;rw [if_neg (by decide),if_neg (by decide),if_neg (by decide),if_pos rfl]
theorem wv5:oK 5 ay l c pn pd pk aL=(aU pn pd*(aU pn pd*(3*pd-2*aU pn pd)),pd*(pd*pd)):=by unfold oK;rw [if_neg (by decide),if_neg (by decide),if_neg (by decide),if_neg (by decide),if_pos rfl]
theorem wv6:oK 6 ay l c pn pd pk aL=(oL aL pk,65536):=by unfold oK;rw [if_neg (by decide),if_neg (by decide),if_neg (by decide),if_neg (by decide),if_neg (by decide),if_pos rfl]
theorem wv7:oK 7 ay l c pn pd pk aL=iA l (pn*c) pd l.length 0 0:=by unfold oK;rw [if_neg (by decide),if_neg (by decide),if_neg (by decide),if_neg (by decide),if_neg (by decide),if_neg (by decide)]
end
theorem OD {u U3:Int} {d:Nat} (h:U3=3*((d*d*(d*d):Nat):Int)-(u*(d:Int)*((d*d:Nat):Int)+u*(d:Int)*((d*d:Nat):Int))*((1:Nat):Int)) :
  u*(d:Int)*(u*(d:Int))*U3*((d:Int)*((d:Int)*(d:Int)))=u*(u*(3*(d:Int)-2*u))*((d*d*(d*d)*(1*(d*d*(d*d))):Nat):Int):=by
 rw [h];push_cast;grind
theorem O8 {pn UP U3:Int} {d:Nat} (hUP:UP=aU pn d*(d:Int)) (hU3:U3=3*((d*d*(d*d):Nat):Int)-(UP*((d*d:Nat):Int)+UP*((d*d:Nat):Int))*((1:Nat):Int)) :
  UP*UP*U3*((d:Int)*((d:Int)*(d:Int)))=aU pn d*(aU pn d*(3*(d:Int)-2*aU pn d))*((d*d*(d*d)*(1*(d*d*(d*d))):Nat):Int):=by
 subst hUP;exact OD hU3
theorem Pm (aK low aD aA ay ak:Int) (aI rel:Bool) (ao:Option Addr) (cap:Nat) (l:List Stp) (aL count clock c pn pd pk:Int) (w:World) (hf:1≤aK∧aK≤7) (hs:eH w.heap.size w ao l) (hl:l.length≤50) (hall:l.all fV=true) (hc:0≤aA∧aA≤3600000) (h6:aK≠7→l.length=0) (h7:aK=7→aA=0)
  (hcc:aA+dh l=c) (c0:1≤c) (c1:c≤3600000) (n0:1≤count) (n1:count≤400) (i0:0≤aL) (i1:aL≤400) (k0:0≤clock) (k1:clock≤36360000000) (s0:-10000≤ak) (s1:ak≤10000) (hwd0:0≤ay) (Qm:ay≤1000)
  (hpn:AA aI (mE c ak aL count clock) (j6 c count)=pn) (nQ:j6 c count=pd) (hpk:mE c ak aL count clock / j6 c count=pk) :
  Calls Tryz.prog 52 #[.agg #[.int .i64 aK,.int .i64 low,.int .i64 aD,.int .i64 aA,.int .i64 ay,.int .i64 ak,.bool aI,.bool rel,.slice ao l.length cap],.int .i64 aL,.int .i64 count,.int .i64 clock] w (NewW (oK aK ay l c pn pd pk aL) 130 130 w):=by
 have CC:=ah (fun (W:World) (hb:Below w.heap.size w W)=>zH aK low aD aA ay ak c aI rel ao cap l W (dA hs hb) hl hall hc h6 h7 hcc);have R3:=ah (show aK=1∨aK=2∨aK=3∨aK=4∨aK=5∨aK=6∨aK=7 from by omega);obtain ⟨d0,d1⟩:=ig c0 c1 n0 n1;have b1:=dJ (a:=clock*1000) (b:=count) (A:=36360000000000) (B:=400) (by omega) (by omega) (by omega) n1;have b2:=yN (a:=ak) (b:=aL) (A:=10000) (B:=400) s0 s1 i0 i1;have b3:=yN (a:=ak*aL*100) (b:=c) (A:=400000000) (B:=3600000) (by omega) (by omega) (by omega) c1
 have hyr:-20000000000000000≤mE c ak aL count clock∧mE c ak aL count clock≤20000000000000000:=by
  unfold mE;omega
 obtain ⟨d,hd'⟩:∃d:Nat,d=pd.toNat:=⟨_,rfl⟩;rw [nQ] at d0 d1 hpn hpk;have hdI:pd=(d:Int):=by omega
 have HY:=ah (show clock*(((1000*count).toNat:Nat):Int)-ak*aL*(((100*c).toNat:Nat):Int)=mE c ak aL count clock from by
  unfold mE;rw [show (((1000*count).toNat:Nat):Int)=1000*count by omega,show (((100*c).toNat:Nat):Int)=100*c by omega];grind)
 have HD:=ah (show (100*c).toNat*(1000*count).toNat=d from by
  have e:(((100*c).toNat*(1000*count).toNat:Nat):Int)=pd:=by
   rw [Int.natCast_mul,show (((1000*count).toNat:Nat):Int)=1000*count by omega,show (((100*c).toNat:Nat):Int)=100*c by omega,←nQ];unfold j6;grind
  omega)
 subst hdI;generalize mE c ak aL count clock=Y at *;have hm:=Int.emod_add_mul_ediv Y d;have hm1:=Int.emod_nonneg Y (show (d:Int)≠0 by omega);have hm2:=Int.emod_lt_of_pos Y (show 0<(d:Int) by omega);have hq1:Y / d≤20000000000000000:=Int.le_trans (Int.ediv_le_ediv (by omega) hyr.2) (Int.ediv_le_self _ (by omega))
 have hq0:-20000000000000001≤Y / d:=by
  rw [Int.le_ediv_iff_mul_le (by omega)];omega
 have JV:=ah (show pn=if aI=true∧0<Y % d then d-Y % d else Y % d from by rw [←hpn];rfl);rw [hpk] at hm hq1 hq0;obtain ⟨x0,hx0⟩:∃x0,x0=Y % d:=⟨_,rfl⟩;rw [←hx0] at hm hm1 hm2 JV;have HX0:=ah (show Y*((1:Nat):Int)-pk*(d:Int)=x0 from by rw [Int.mul_comm pk];omega);have Ht:=ah hpk;have hpr:0≤pn∧pn≤d:=by rw [JV.out];split<;>omega
 have hd:d≤10 ^ 15:=by
  have:d≤1000000000000000:=by omega
  exact this
 have g11:clock≤10 ^ 11:=by
  have:clock≤100000000000:=by omega
  exact this
 have g9:100*c≤10 ^ 9:=by
  have:100*c≤1000000000:=by omega
  exact this
 have g7:(ak*aL).natAbs≤10 ^ 7:=by
  have:(ak*aL).natAbs≤10000000:=by omega
  exact this
 have g6:(1000*count).natAbs≤10 ^ 6:=by
  have:(1000*count).natAbs≤1000000:=by omega
  exact this
 have g18:pk.natAbs≤10 ^ 18:=by
  have:pk.natAbs≤1000000000000000000:=by omega
  exact this
 have g15:x0.natAbs≤10 ^ 15:=by
  have:x0.natAbs≤1000000000000000:=by omega
  exact this
 have gp:pn.natAbs≤10 ^ 15:=by
  have:pn.natAbs≤1000000000000000:=by omega
  exact this
 have g4:ay≤10 ^ 4:=by
  have:ay≤10000:=by omega
  exact this
 have a1:IntKind.i64.wrap (100*c)=100*c:=IntWalk.i64_in _ (by omega);have a2:IntKind.i64.wrap (ak*aL)=ak*aL:=IntWalk.i64_in _ (by omega);have a3:IntKind.i64.wrap (1000*count)=1000*count:=IntWalk.i64_in _ (by omega);generalize QK:oK aK ay l c pn d pk aL=RES;have AJ:=ah QK;clear QK;have HR:=ah (show Y.natAbs / d≤4611686018427387904 from Nat.le_trans (Nat.div_le_self _ _) (by omega));have HS:=ah hs;have R7:=ah (And.intro hall (And.intro hc (And.intro h6 (And.intro h7 hcc))));clear hs hall hc h6 h7 hcc hpn nQ hpk hx0 hm b1 b3 hyr hd';have HE:=ah (show aH ((w.alloc (.cells #[.int .i64 aK,.int .i64 low,.int .i64 aD,.int .i64 aA,.int .i64 ay,.int .i64 ak,.bool aI,.bool rel,.slice ao l.length cap] 28)).alloc (.cells #[.bool false,.slice none 0 0,.slice none 0 0] 99)) w.heap.size 28 #[.int .i64 aK,.int .i64 low,.int .i64 aD,.int .i64 aA,.int .i64 ay,.int .i64 ak,.bool aI,.bool rel,.slice ao l.length cap] from (aH.new w _ _).alloc _)
 have HRB:=ah (show AnyQ ((w.alloc (.cells #[.int .i64 aK,.int .i64 low,.int .i64 aD,.int .i64 aA,.int .i64 ay,.int .i64 ak,.bool aI,.bool rel,.slice ao l.length cap] 28)).alloc (.cells #[.bool false,.slice none 0 0,.slice none 0 0] 99)) (w.heap.size+1) from by
  have h:=aH.new (w.alloc (.cells #[.int .i64 aK,.int .i64 low,.int .i64 aD,.int .i64 aA,.int .i64 ay,.int .i64 ak,.bool aI,.bool rel,.slice ao l.length cap] 28)) #[.bool false,.slice none 0 0,.slice none 0 0] 99;simp only [World.size_alloc] at h;exact ⟨_,_,_,_,_,_,_,h⟩)
 have HB:=ah (show Below w.heap.size w ((w.alloc (.cells #[.int .i64 aK,.int .i64 low,.int .i64 aD,.int .i64 aA,.int .i64 ay,.int .i64 ak,.bool aI,.bool rel,.slice ao l.length cap] 28)).alloc (.cells #[.bool false,.slice none 0 0,.slice none 0 0] 99)) from ((Below.refl _ _).alloc (Nat.le_refl _) _).alloc (by simp) _);have hz1:w.heap.size+2=(((w.alloc (.cells #[.int .i64 aK,.int .i64 low,.int .i64 aD,.int .i64 aA,.int .i64 ay,.int .i64 ak,.bool aI,.bool rel,.slice ao l.length cap] 28)).alloc (.cells #[.bool false,.slice none 0 0,.slice none 0 0] 99))).heap.size:=by simp
 go_enter Tryz.func52,Tryz.ntmps52;go_upto_region 1 with fail;generalize ((w.alloc (.cells #[.int .i64 aK,.int .i64 low,.int .i64 aD,.int .i64 aA,.int .i64 ay,.int .i64 ak,.bool aI,.bool rel,.slice ao l.length cap] 28)).alloc (.cells #[.bool false,.slice none 0 0,.slice none 0 0] 99))=w1 at *;have hz2:w.heap.size+2≤w1.heap.size:=by omega
 have hz1:w.heap.size≤w1.heap.size:=by omega
 refine aX (by kernel_rfl) 16 (by simp) (by kernel_rfl) (by kernel_rfl) (by kernel_rfl) (by kernel_rfl) (fun jx vx wx=>match jx with | 0=>vx=(.int .i64 clock) | 1=>vx=(.agg #[.int .i64 aK,.int .i64 low,.int .i64 aD,.int .i64 aA,.int .i64 ay,.int .i64 ak,.bool aI,.bool rel,.slice ao l.length cap]) | 2=>vx=(.int .i64 c) | 3=>vx=(.int .i64 (100*c)) | 4=>bM wx.heap.size wx vx (clock) ((100*c).toNat) 11 9 | 5=>vx=(.pointer (some ⟨w.heap.size,5,none⟩)) | 6=>vx=(.int .i64 ak) | 7=>vx=(.int .i64 aL) | 8=>vx=(.int .i64 (ak*aL)) | 9=>bM wx.heap.size wx vx (ak*aL) (1) 7 0 | 10=>vx=(.int .i64 count) | 11=>vx=(.int .i64 (1000*count)) | 12=>bM wx.heap.size wx vx (1000*count) (1) 6 0 | 13=>bM wx.heap.size wx vx (ak*aL) ((1000*count).toNat) 7 6 | 14=>bM wx.heap.size wx vx (Y) (d) 18 15 | 15=>fF w1.heap.size 99 #[.bool false,.slice none 0 0,.slice none 0 0] vx wx | _=>True) (fun W=>Below w1.heap.size w1 W) (fun wx wy=>Below wx.heap.size wx wy) (Below.refl _ _).drew ?_ ?_ ?_ ?_
 ·intro jx vx wx wy h g
  match jx,h with
  | 0,h | 1,h | 2,h | 3,h | 5,h | 6,h | 7,h | 8,h | 10,h | 11,h=>exact h
  | 4,h | 9,h | 12,h | 13,h | 14,h=>exact bM.up h g
  | 15,h=>exact fF.up h g
  | jx+16,h=>exact trivial
 ·intro jx ox dx hj ho hd;exact bO (by kernel_rfl) hj ho hd
 ·intro ix ox ax W hi aC hsh hW hpre;have hsz:w1.heap.size≤W.heap.size:=hW.size;have GA:∀ob,Below W.heap.size W (W.alloc ob):=fun ob=>(Below.refl _ _).alloc (Nat.le_refl _) ob;have WA:∀ob,Below w1.heap.size w1 (W.alloc ob):=fun ob=>hW.alloc hsz ob;have t1:ax.tmps[1]?.getD undef=(.int .i64 aL):=gT (hsh.2.2 1 (aM (by kernel_rfl)));have t2:ax.tmps[2]?.getD undef=(.int .i64 count):=gT (hsh.2.2 2 (aM (by kernel_rfl)));have t3:ax.tmps[3]?.getD undef=(.int .i64 clock):=gT (hsh.2.2 3 (aM (by kernel_rfl)));have t4:ax.tmps[4]?.getD undef=(.pointer (some ⟨w.heap.size,0,none⟩)):=gT (hsh.2.2 4 (aM (by kernel_rfl)));have e0:=(HE.out.below hW).cell (i:=0) rfl;have e1:=(HE.out.below hW).cell (i:=1) rfl;have e2:=(HE.out.below hW).cell (i:=2) rfl;have e3:=(HE.out.below hW).cell (i:=3) rfl;have e4:=(HE.out.below hW).cell (i:=4) rfl;have e5:=(HE.out.below hW).cell (i:=5) rfl;have e6:=(HE.out.below hW).cell (i:=6) rfl;have e7:=(HE.out.below hW).cell (i:=7) rfl;have e8:=(HE.out.below hW).cell (i:=8) rfl;clear hsh
  match ix,hi,aC with
  | 0,_,aC=>
   cases aC;exact au (w':=W) (by simp [execOp,Act.eval,t3,go_sem]) (aS hW)
  | 1,_,aC=>
   cases aC;exact au (w':=W) (by simp [execOp,Act.eval,t4,e0,e1,e2,e3,e4,e5,e6,e7,e8,go_sem]) (aS hW)
  | 2,_,aC=>
   cases aC;have f1:=gT (hpre ⟨1,.data⟩ (by simp) (by rfl) _ _ rfl rfl);refine aG (by simp [execOp,Act.eval,f1,go_sem]) ((CC.out W (HB.out.trans (hW.mono hz1))).mono ?_);rintro ex wy ⟨rfl,hb⟩;exact ⟨_,rfl,_,rfl,rfl,hW.trans (hb.mono hsz),hb⟩
  | 3,_,aC=>
   cases aC;have f2:=gT (hpre ⟨2,.data⟩ (by simp) (by rfl) _ _ rfl rfl);exact au (w':=W) (by simp [execOp,Act.eval,a1,f2,go_sem]) (aS hW)
  | 4,_,aC=>
   cases aC;have f0:=gT (hpre ⟨0,.data⟩ (by simp) (by rfl) _ _ rfl rfl);have f3:=gT (hpre ⟨3,.data⟩ (by simp) (by rfl) _ _ rfl rfl);refine aG (by simp [execOp,Act.eval,f0,f3,go_sem]) ((BZ clock (100*c) 11 9 W (by omega) (by omega) (by omega) (by omega) g11 g9).mono ?_);rintro ex wy ⟨vn,rfl,hq,hb⟩;exact ⟨vn,rfl,_,rfl,hq,hW.trans (hb.mono hsz),hb⟩
  | 5,_,aC=>
   cases aC;exact au (w':=W) (by simp [execOp,Act.eval,t4,go_sem]) (aS hW)
  | 6,_,aC=>
   cases aC;have f5:=gT (hpre ⟨5,.data⟩ (by simp) (by rfl) _ _ rfl rfl);exact au (w':=W) (by simp [execOp,Act.eval,e5,f5,go_sem]) (aS hW)
  | 7,_,aC=>
   cases aC;exact au (w':=W) (by simp [execOp,Act.eval,t1,go_sem]) (aS hW)
  | 8,_,aC=>
   cases aC;have f6:=gT (hpre ⟨6,.data⟩ (by simp) (by rfl) _ _ rfl rfl);have f7:=gT (hpre ⟨7,.data⟩ (by simp) (by rfl) _ _ rfl rfl);exact au (w':=W) (by simp [execOp,Act.eval,a2,f6,f7,go_sem]) (aS hW)
  | 9,_,aC=>
   cases aC;have f8:=gT (hpre ⟨8,.data⟩ (by simp) (by rfl) _ _ rfl rfl);refine aG (by simp [execOp,Act.eval,f8,go_sem]) ((gZ (ak*aL) 7 W (by omega) (by omega) g7).mono ?_);rintro ex wy ⟨vn,rfl,hq,hb⟩;exact ⟨vn,rfl,_,rfl,hq,hW.trans (hb.mono hsz),hb⟩
  | 10,_,aC=>
   cases aC;exact au (w':=W) (by simp [execOp,Act.eval,t2,go_sem]) (aS hW)
  | 11,_,aC=>
   cases aC;have f10:=gT (hpre ⟨10,.data⟩ (by simp) (by rfl) _ _ rfl rfl);exact au (w':=W) (by simp [execOp,Act.eval,a3,f10,go_sem]) (aS hW)
  | 12,_,aC=>
   cases aC;have f11:=gT (hpre ⟨11,.data⟩ (by simp) (by rfl) _ _ rfl rfl);refine aG (by simp [execOp,Act.eval,f11,go_sem]) ((gZ (1000*count) 6 W (by omega) (by omega) g6).mono ?_);rintro ex wy ⟨vn,rfl,hq,hb⟩;exact ⟨vn,rfl,_,rfl,hq,hW.trans (hb.mono hsz),hb⟩
  | 13,_,aC=>
   cases aC;obtain ⟨v9,f9,r9⟩:=gR (fun v=>bM W.heap.size W v (ak*aL) (1) 7 0) (hpre ⟨9,.data⟩ (by simp) (by rfl) _ _ rfl rfl);obtain ⟨v12,f12,r12⟩:=gR (fun v=>bM W.heap.size W v (1000*count) (1) 6 0) (hpre ⟨12,.data⟩ (by simp) (by rfl) _ _ rfl rfl);refine aG (by simp [execOp,Act.eval,f9,f12,go_sem]) (((Kn W.heap.size _ _ 7 0 6 0 _ _ _ _ W (Nat.le_refl _) (by omega) (by omega) (by omega) (by omega) (by omega) (by omega) (by omega) r9 r12).mono (fun _ _ h=>eX h (Int.mul_one _) (Nat.one_mul _))).mono ?_);rintro ex wy ⟨vn,rfl,hq,hb⟩;exact ⟨vn,rfl,_,rfl,hq,hW.trans (hb.mono hsz),hb⟩
  | 14,_,aC=>
   cases aC;obtain ⟨v4,f4,r4⟩:=gR (fun v=>bM W.heap.size W v (clock) ((100*c).toNat) 11 9) (hpre ⟨4,.data⟩ (by simp) (by rfl) _ _ rfl rfl);obtain ⟨v13,f13,r13⟩:=gR (fun v=>bM W.heap.size W v (ak*aL) ((1000*count).toNat) 7 6) (hpre ⟨13,.data⟩ (by simp) (by rfl) _ _ rfl rfl);refine aG (by simp [execOp,Act.eval,f4,f13,go_sem]) (((qA W.heap.size _ _ 11 9 7 6 18 _ _ _ _ W (Nat.le_refl _) (by omega) (by omega) (by omega) (by omega) r4 r13).mono (fun _ _ h=>eX h HY.out HD.out)).mono ?_);rintro ex wy ⟨vn,rfl,hq,hb⟩;exact ⟨vn,rfl,_,rfl,hq,hW.trans (hb.mono hsz),hb⟩
  | 15,_,aC=>
   cases aC;exact au (v:=.pointer (some ⟨W.heap.size,0,none⟩)) (w':=W.alloc (.cells #[.bool false,.slice none 0 0,.slice none 0 0] 99)) (by simp [execOp,Act.eval,jo,go_sem]) ⟨_,rfl,fF.new _ _ hsz,WA _,GA _⟩
  | ix+16,hi,_=>exact absurd hi (by omega)
 ·intro ax w2 hsh hW hφ;have e0:=hφ 0 _ _ (by omega) rfl rfl;have e1:=hφ 1 _ _ (by omega) rfl rfl;have e2:=hφ 2 _ _ (by omega) rfl rfl;have e3:=hφ 3 _ _ (by omega) rfl rfl;have q4:bM w2.heap.size w2 (ax.tmps.getD 18 undef) (clock) ((100*c).toNat) 11 9:=hφ 4 _ _ (by omega) rfl rfl;obtain ⟨v4,e4⟩:∃v,ax.tmps.getD 18 undef=v:=⟨_,rfl⟩;rw [e4] at q4;have Q4:=ah q4;clear q4;have e5:=hφ 5 _ _ (by omega) rfl rfl;have e6:=hφ 6 _ _ (by omega) rfl rfl;have e7:=hφ 7 _ _ (by omega) rfl rfl;have e8:=hφ 8 _ _ (by omega) rfl rfl;have q9:bM w2.heap.size w2 (ax.tmps.getD 23 undef) (ak*aL) (1) 7 0:=hφ 9 _ _ (by omega) rfl rfl;obtain ⟨v9,e9⟩:∃v,ax.tmps.getD 23 undef=v:=⟨_,rfl⟩;rw [e9] at q9;have Q9:=ah q9;clear q9;have e10:=hφ 10 _ _ (by omega) rfl rfl;have e11:=hφ 11 _ _ (by omega) rfl rfl;have nk:bM w2.heap.size w2 (ax.tmps.getD 26 undef) (1000*count) (1) 6 0:=hφ 12 _ _ (by omega) rfl rfl;obtain ⟨v12,e12⟩:∃v,ax.tmps.getD 26 undef=v:=⟨_,rfl⟩;rw [e12] at nk;have Q12:=ah nk;clear nk;have ow:bM w2.heap.size w2 (ax.tmps.getD 27 undef) (ak*aL) ((1000*count).toNat) 7 6:=hφ 13 _ _ (by omega) rfl rfl;obtain ⟨v13,e13⟩:∃v,ax.tmps.getD 27 undef=v:=⟨_,rfl⟩;rw [e13] at ow;have Q13:=ah ow;clear ow;have ou:bM w2.heap.size w2 (ax.tmps.getD 28 undef) (Y) (d) 18 15:=hφ 14 _ _ (by omega) rfl rfl;obtain ⟨v14,e14⟩:∃v,ax.tmps.getD 28 undef=v:=⟨_,rfl⟩;rw [e14] at ou;have Q14:=ah ou;clear ou;obtain ⟨b15,e15,hb15,Qz⟩:=hφ 15 _ _ (by omega) rfl rfl;rw [bf hsh [(14,_),(15,_),(16,_),(17,_),(18,_),(19,_),(20,_),(21,_),(22,_),(23,_),(24,_),(25,_),(26,_),(27,_),(28,_),(9,_)] [14,15,16,17,18,19,20,21,22,23,24,25,26,27,28,9] rfl (by kernel_rfl) ⟨e0,e1,e2,e3,e4,e5,e6,e7,e8,e9,e10,e11,e12,e13,e14,e15,trivial⟩];clear hφ hsh e0 e1 e2 e3 e4 e5 e6 e7 e8 e9 e10 e11 e12 e13 e14 e15;simp only [cB,List.foldl_cons,List.foldl_nil,List.drop_succ_cons,List.drop_zero,Act.put,List.setIfInBounds_toArray,List.set_cons_succ,List.set_cons_zero];have yP:=hW.size;refine bX w2 rfl _ _ rfl b15 rfl rfl Q14.out ⟨_,_,_,_,_,_,_,Qz⟩ ?_;intro w3 QY SY;simp only [Act.put];have HE3:=ah ((HE.out.below hW).fE SY.1 (by omega));have HR3:=ah ((HRB.out.below hW).wM SY (by omega));have HB3:=ah (aY (HB.out.trans (hW.mono hz1)) SY.1 (by omega) (by omega));have RI:=ah QY;have hz3:w.heap.size+2≤w3.heap.size:=by have:=SY.2.2;omega
  obtain ⟨yb,hyb⟩:∃yb,yb=b15:=⟨_,rfl⟩;have hyb2:w.heap.size+2≤yb:=by omega
  rw [←hyb] at RI ⊢;clear hyb hW QY SY Qz HE HRB HB Q4 Q9 Q12 Q13 Q14 CC hz1 hz2 hb15 yP HY HD a1 a2 a3 g11 g9 g7 g6 b2;obtain ⟨s_y,a_y,L_y,c_y,b_y,M_y,d_y,zm,Bb⟩:=RI.out;obtain ⟨xy0,xy1,xy2⟩:=pG zm;have hly:=zm.lt;have HRy:=ah Bb;clear Bb;go_wp2_with fail;refine (floorS _ _ _ _ _ _ _ (Nat.le_refl _) (by omega) HR.out HRy.out).mono ?_;rintro e w4 ⟨rfl,hb4⟩;rw [Ht.out];have HE4:=ah (HE3.out.below hb4);have HR4:=ah (HR3.out.below hb4);have pU:=ah (HB3.out.trans (hb4.mono (by omega)));have HY4:=ah (RI.out.below hb4);have hz4:w.heap.size+2≤w4.heap.size:=by have:=hb4.size;omega
  clear hb4 HE3 HR3 HB3 RI HRy zm xy0 xy1 xy2 hly HR Ht;go_upto_region 3 with fail;refine uf (by kernel_rfl) 7 (by simp) (by kernel_rfl) (by kernel_rfl) (by kernel_rfl) (by kernel_rfl) (Two 11 12) (fun jx vx wx=>match jx with | 0=>bM wx.heap.size wx vx (Y) (d) 18 15 | 1=>vx=(.int .i64 pk) | 2=>bM wx.heap.size wx vx (pk) (1) 18 0 | 3=>bM wx.heap.size wx vx (x0) (d) 15 15 | 4=>bM wx.heap.size wx vx (1) (1) 1 0 | 5=>fF w4.heap.size 99 #[.bool false,.slice none 0 0,.slice none 0 0] vx wx | 6=>fF w4.heap.size 99 #[.bool false,.slice none 0 0,.slice none 0 0] vx wx | _=>True) (fun W=>Below w4.heap.size w4 W) (fun wx wy=>Below wx.heap.size wx wy) (by constructor<;>(intro b hb;exact absurd hb (by first | exact rE | (intro hh;cases hh)))) (Below.refl _ _).drew ?_ ?_ ?_ ?_
  ·intro jx vx wx wy h g
   match jx,h with
   | 0,h | 2,h | 3,h | 4,h=>exact bM.up h g
   | 1,h=>exact h
   | 5,h | 6,h=>exact fF.up h g
   | jx+7,h=>exact trivial
  ·intro jx ox dx hj ho hd;exact bO (by kernel_rfl) hj ho hd
  ·intro ix ox ax W hi aC hsh hW hJ hpre;have hsz:w4.heap.size≤W.heap.size:=hW.size;have GA:∀ob,Below W.heap.size W (W.alloc ob):=fun ob=>(Below.refl _ _).alloc (Nat.le_refl _) ob;have WA:∀ob,Below w4.heap.size w4 (W.alloc ob):=fun ob=>hW.alloc hsz ob;have t9:ax.tmps[9]?.getD undef=(.pointer (some ⟨yb,0,none⟩)):=gT (hsh.2.2 9 (aM (by kernel_rfl)));have t10:ax.tmps[10]?.getD undef=(.int .i64 pk):=gT (hsh.2.2 10 (aM (by kernel_rfl)));obtain ⟨s_y,a_y,L_y,c_y,b_y,M_y,d_y,zm,Bb⟩:=(HY4.out.below hW);obtain ⟨xy0,xy1,xy2⟩:=pG zm;clear hsh
   match ix,hi,aC with
   | 0,_,aC=>
    cases aC;exact au (w':=W) (by simp [execOp,Act.eval,t9,xy0,xy1,xy2,go_sem]) ⟨_,rfl,Bb,hW,Below.refl _ _,gI hJ (Below.refl _ _) _ (by decide) (by decide)⟩
   | 1,_,aC=>
    cases aC;exact au (w':=W) (by simp [execOp,Act.eval,t10,go_sem]) ⟨_,rfl,rfl,hW,Below.refl _ _,gI hJ (Below.refl _ _) _ (by decide) (by decide)⟩
   | 2,_,aC=>
    cases aC;have f1:=gT (hpre ⟨1,.data⟩ (by simp) (by rfl) _ _ rfl rfl);refine aG (by simp [execOp,Act.eval,f1,go_sem]) ((gZ (pk) 18 W (by omega) (by omega) g18).mono ?_);rintro ex wy ⟨vn,rfl,hq,hb⟩;exact ⟨vn,rfl,_,rfl,hq,hW.trans (hb.mono hsz),hb,gI hJ hb _ (by decide) (by decide)⟩
   | 3,_,aC=>
    cases aC;obtain ⟨v0,f0,r0⟩:=gR (fun v=>bM W.heap.size W v (Y) (d) 18 15) (hpre ⟨0,.data⟩ (by simp) (by rfl) _ _ rfl rfl);obtain ⟨v2,f2,r2⟩:=gR (fun v=>bM W.heap.size W v (pk) (1) 18 0) (hpre ⟨2,.data⟩ (by simp) (by rfl) _ _ rfl rfl);refine aG (by simp [execOp,Act.eval,f0,f2,go_sem]) (((qA W.heap.size _ _ 18 15 18 0 34 _ _ _ _ W (Nat.le_refl _) (by omega) (by omega) (by omega) (by omega) r0 r2).mono (fun _ _ h=>zU h HX0.out (Nat.mul_one _) g15 hd)).mono ?_);rintro ex wy ⟨vn,rfl,hq,hb⟩;exact ⟨vn,rfl,_,rfl,hq,hW.trans (hb.mono hsz),hb,gI hJ hb _ (by decide) (by decide)⟩
   | 4,_,aC=>
    cases aC;refine aG (by simp [execOp,Act.eval,go_sem]) ((gZ (1) 1 W (by omega) (by omega) (by decide)).mono ?_);rintro ex wy ⟨vn,rfl,hq,hb⟩;exact ⟨vn,rfl,_,rfl,hq,hW.trans (hb.mono hsz),hb,gI hJ hb _ (by decide) (by decide)⟩
   | 5,_,aC=>
    cases aC;exact au (v:=.pointer (some ⟨W.heap.size,0,none⟩)) (w':=W.alloc (.cells #[.bool false,.slice none 0 0,.slice none 0 0] 99)) (by simp [execOp,Act.eval,jo,go_sem]) ⟨_,rfl,fF.new _ _ hsz,WA _,GA _,Ke hJ _ (by decide)⟩
   | 6,_,aC=>
    cases aC;exact au (v:=.pointer (some ⟨W.heap.size,0,none⟩)) (w':=W.alloc (.cells #[.bool false,.slice none 0 0,.slice none 0 0] 99)) (by simp [execOp,Act.eval,jo,go_sem]) ⟨_,rfl,fF.new _ _ hsz,WA _,GA _,Kc hJ _ (by decide)⟩
   | ix+7,hi,_=>exact absurd hi (by omega)
  ·intro ax w5 hsh hW hJ hφ;have q0:bM w5.heap.size w5 (ax.tmps.getD 31 undef) (Y) (d) 18 15:=hφ 0 _ _ (by omega) rfl rfl;obtain ⟨v0,e0⟩:∃v,ax.tmps.getD 31 undef=v:=⟨_,rfl⟩;rw [e0] at q0;have Q0:=ah q0;clear q0;have e1:=hφ 1 _ _ (by omega) rfl rfl;have q2:bM w5.heap.size w5 (ax.tmps.getD 33 undef) (pk) (1) 18 0:=hφ 2 _ _ (by omega) rfl rfl;obtain ⟨v2,e2⟩:∃v,ax.tmps.getD 33 undef=v:=⟨_,rfl⟩;rw [e2] at q2;have Q2:=ah q2;clear q2;have q3:bM w5.heap.size w5 (ax.tmps.getD 34 undef) (x0) (d) 15 15:=hφ 3 _ _ (by omega) rfl rfl;obtain ⟨v3,e3⟩:∃v,ax.tmps.getD 34 undef=v:=⟨_,rfl⟩;rw [e3] at q3;have Q3:=ah q3;clear q3;have q4:bM w5.heap.size w5 (ax.tmps.getD 35 undef) (1) (1) 1 0:=hφ 4 _ _ (by omega) rfl rfl;obtain ⟨v4,e4⟩:∃v,ax.tmps.getD 35 undef=v:=⟨_,rfl⟩;rw [e4] at q4;have Q4:=ah q4;clear q4;obtain ⟨b5,e5,hb5,hl5⟩:=hφ 5 _ _ (by omega) rfl rfl;obtain ⟨b6,e6,hb6,Oe⟩:=hφ 6 _ _ (by omega) rfl rfl
   have hne2:b5≠b6:=by
    intro hh;subst hh;exact (hJ.1 _ e5).2 e6
   clear hJ;rw [bf hsh [(31,_),(32,_),(33,_),(34,_),(35,_),(11,_),(12,_)] [31,32,33,34,35,11,12] rfl (by kernel_rfl) ⟨e0,e1,e2,e3,e4,e5,e6,trivial⟩];clear hφ hsh e0 e1 e2 e3 e4 e5 e6;simp only [cB,List.foldl_cons,List.foldl_nil,List.drop_succ_cons,List.drop_zero,Act.put,List.setIfInBounds_toArray,List.set_cons_succ,List.set_cons_zero];have yP:=hW.size;have hA6:AnyQ w5 b6:=⟨_,_,_,_,_,_,_,Oe⟩;refine bX w5 rfl _ _ rfl b5 rfl rfl Q3.out ⟨_,_,_,_,_,_,_,hl5⟩ ?_;intro w6 QY SY;simp only [Act.put];have HE6:=ah ((HE4.out.below hW).fE SY.1 (by omega));have Bw:=ah ((HR4.out.below hW).wM SY (by omega));have tZ:=ah (aY (pU.out.trans (hW.mono (by omega))) SY.1 (by omega) (by omega));have HX6:=ah QY;have hA7:=hA6.wM SY (Ne.symm hne2);have hz6:=SY.2.2;have Q46:=ah (SY.2.1 _ _ _ _ _ _ Q4.out);clear QY SY hA6;rw [←hz6] at Q46;refine bX w6 rfl _ _ rfl b6 rfl rfl Q46.out hA7 ?_;intro w7 QY SY;simp only [Act.put];have HK7:=ah (show ED w #[.int .i64 aK,.int .i64 low,.int .i64 aD,.int .i64 aA,.int .i64 ay,.int .i64 ak,.bool aI,.bool rel,.slice ao l.length cap] b5 b6 x0 d w7 from ⟨HE6.out.fE SY.1 (by omega),Bw.out.wM SY (by omega),HX6.out.wM SY hne2,QY,⟨by omega,by omega,hne2⟩,aY tZ.out SY.1 (by omega) (by omega)⟩);obtain ⟨xb,hxb⟩:∃xb,xb=b5:=⟨_,rfl⟩;obtain ⟨ob,Kw⟩:∃ob,ob=b6:=⟨_,rfl⟩;rw [←hxb,←Kw] at HK7 ⊢;have hxo:w.heap.size+2≤xb∧w.heap.size+2≤ob∧xb≠ob:=HK7.out.2.2.2.2.1;clear hxb Kw QY SY hA7 hW hne2 hl5 Oe HE4 HR4 pU HY4 HE6 Bw tZ HX6 Q46 Q0 Q2 Q3 Q4 hb5 hb6 hz6 yP;obtain ⟨bz,hbz⟩:∃bz,bz=decide (aI=true∧0<x0):=⟨_,rfl⟩;have qW:=ah hbz;clear hbz;go_upto_region 4 with fail;go_cut [42] (fun s42 wx=>s42=.bool bz∧Hid (ED w #[.int .i64 aK,.int .i64 low,.int .i64 aD,.int .i64 aA,.int .i64 ay,.int .i64 ak,.bool aI,.bool rel,.slice ao l.length cap] xb ob x0 d wx))
   case first=>
    have e6:=HK7.out.1.cell (i:=6) rfl;have hle:=HK7.out.1.lt;obtain ⟨LK,NQ,NU,NC,NI,NS,Nv,gJ,jC⟩:=HK7.out.2.2.1;obtain ⟨AR,AQ,AP⟩:=pG gJ;have hlx:=gJ.lt;have Bv:=ah jC;clear jC;cases aI
    ·obtain rfl:bz=false:=by rw [qW.out];simp
     clear Bv gJ;go_wp2_with fail;all_goals go_meet
     all_goals exact ⟨rfl,HK7⟩
    ·by_cases hz:x0=0
     ·obtain rfl:bz=false:=by rw [qW.out,hz];simp
      have CZ:=ah (zeroS _ _ _ _ _ _ _ Bv.out);rw [H6 hz] at CZ;clear Bv gJ hz;go_wp2_with fail;refine CZ.out.mono ?_;rintro e wa ⟨rfl,hba⟩;have sO:=ah (HK7.out.below hba);clear hba CZ;go_wp2_with fail;all_goals go_meet
      all_goals exact ⟨rfl,sO⟩
     ·obtain rfl:bz=true:=by
       rw [qW.out];exact decide_eq_true ⟨rfl,by omega⟩
      have CZ:=ah (zeroS _ _ _ _ _ _ _ Bv.out);rw [Ox hz] at CZ;clear Bv gJ hz;go_wp2_with fail;refine CZ.out.mono ?_;rintro e wa ⟨rfl,hba⟩;have sO:=ah (HK7.out.below hba);clear hba CZ;go_wp2_with fail;all_goals go_meet
      all_goals exact ⟨rfl,sO⟩
   case rest=>
    obtain ⟨rfl,JW⟩:=hcut;clear HK7;go_upto_if 42 with fail;go_cut [] (fun wx=>Hid (ED w #[.int .i64 aK,.int .i64 low,.int .i64 aD,.int .i64 aA,.int .i64 ay,.int .i64 ak,.bool aI,.bool rel,.slice ao l.length cap] xb ob pn d wx))
    case first=>
     cases bz
     ·have R4:=ah (show x0=pn from by
       have:=qW.out;rw [JV.out,if_neg (of_decide_eq_false this.symm)])
      go_wp2_with fail;all_goals go_meet
      all_goals (rw [←R4.out];exact JW)
     ·have R4:=ah (show 1*(d:Int)-x0*((1:Nat):Int)=pn from by
       have:=qW.out;rw [JV.out,if_pos (of_decide_eq_true this.symm)];omega)
      obtain ⟨LK,NQ,NU,NC,NI,NS,Nv,gJ,jC⟩:=JW.out.2.2.1;obtain ⟨AR,AQ,AP⟩:=pG gJ;have hlx:=gJ.lt;have Bv:=ah jC;clear jC;obtain ⟨s_o,a_o,L_o,c_o,b_o,M_o,d_o,uz,Ai⟩:=JW.out.2.2.2.1;obtain ⟨xo0,xo1,xo2⟩:=pG uz;have hlo:=uz.lt;have HRo:=ah Ai;clear Ai;go_wp2_with fail;refine ((qA _ _ _ 1 0 15 15 17 _ _ _ _ _ (Nat.le_refl _) (by omega) (by omega) (by omega) (by omega) HRo.out Bv.out).mono (fun _ _ h=>zU (m':=15) (n':=15) h R4.out (Nat.one_mul _) gp hd)).mono ?_;rintro e wa ⟨va,rfl,wY,hba⟩;obtain ⟨LM,a_v,NV,ND,NJ,NT,Nw,rfl⟩:=fB wY;have sO:=ah (JW.out.below hba);have HQa:=ah wY;clear hba wY JW gJ AR AQ AP hlx uz xo0 xo1 xo2 hlo Bv HRo;obtain ⟨LK,NQ,NU,NC,NI,NS,Nv,gJ,jC⟩:=sO.out.2.2.1;obtain ⟨AR,AQ,AP⟩:=pG gJ;have hlx:=gJ.lt;have Bv:=ah jC;clear jC;have fx0:=gJ.frozen 0;have fx1:=gJ.frozen 1;have fx2:=gJ.frozen 2;have HQ2:=ah (je sO.out.2.2.1.any HQa.out);have HS2:=ah (uD sO.out.2.2.1.any (.bool LM) (.slice a_v NV ND) (.slice NJ NT Nw));clear gJ Bv;go_wp2_with fail;all_goals go_meet
      all_goals exact ah (sO.out.stx HS2.out HQ2.out)
    case rest=>
     have HKP:Hid (ED w #[.int .i64 aK,.int .i64 low,.int .i64 aD,.int .i64 aA,.int .i64 ay,.int .i64 ak,.bool aI,.bool rel,.slice ao l.length cap] xb ob pn d wc):=hcut;clear JW;obtain ⟨LK,NQ,NU,NC,NI,NS,Nv,gJ,jC⟩:=HKP.out.2.2.1;obtain ⟨AR,AQ,AP⟩:=pG gJ;have hlx:=gJ.lt;have Bv:=ah jC;clear jC;have G8:=ah (show pn*(d:Int)+pn*(d:Int)=2*pn*d from by grind);go_wp2_with fail;refine ((BR _ _ _ 15 15 15 15 31 _ _ _ _ _ (Nat.le_refl _) (by omega) (by omega) (by omega) (by omega) Bv.out Bv.out).mono (fun _ _ h=>eX h G8.out rfl)).mono ?_;rintro e wa ⟨va,rfl,wY,hba⟩;obtain ⟨LM,a_v,NV,ND,NJ,NT,Nw,rfl⟩:=fB wY;have sO:=ah (HKP.out.below hba);have hA:=(Below.refl wa.heap.size wa).alloc (Nat.le_refl _) (.cells #[.bool LM,.slice a_v NV ND,.slice NJ NT Nw] 99);have HUB:=ah (show gY (wa.alloc (.cells #[.bool LM,.slice a_v NV ND,.slice NJ NT Nw] 99)) wa.heap.size (2*pn*d) (d*d) 31 30 from ⟨_,_,_,_,_,_,_,aH.new wa _ _,wY.up hA⟩);have NZ:=ah (sO.out.below hA);have hza:=sO.out.size;clear hba wY hA sO HKP gJ AR AQ AP hlx Bv G8;go_upto_region 7 with fail;obtain ⟨ub,hub⟩:∃ub,ub=wa.heap.size:=⟨_,rfl⟩;generalize hwb:wa.alloc (.cells #[.bool LM,.slice a_v NV ND,.slice NJ NT Nw] 99)=wb at *;rw [←hub] at HUB ⊢;have hub4:w.heap.size+2≤ub∧xb≠ub∧ob≠ub:=⟨by omega,by omega,by omega⟩;clear hub hwb hza;obtain ⟨bu,hbu⟩:∃bu,bu=decide ((d:Int)<2*pn):=⟨_,rfl⟩;have HBU:=ah hbu;clear hbu;go_cut [52] (fun s52 wx=>s52=.bool bu∧Hid (ED w #[.int .i64 aK,.int .i64 low,.int .i64 aD,.int .i64 aA,.int .i64 ay,.int .i64 ak,.bool aI,.bool rel,.slice ao l.length cap] xb ob pn d wx)∧Hid (gY wx ub (2*pn*d) (d*d) 31 30))
     case first=>
      obtain ⟨s_u,a_u,L_u,c_u,b_u,M_u,d_u,wu,vJ⟩:=HUB.out;obtain ⟨xu0,xu1,xu2⟩:=pG wu;have hlu:=wu.lt;have HRu:=ah vJ;clear vJ;obtain ⟨s_o,a_o,L_o,c_o,b_o,M_o,d_o,uz,Ai⟩:=NZ.out.2.2.2.1;obtain ⟨xo0,xo1,xo2⟩:=pG uz;have hlo:=uz.lt;have HRo:=ah Ai;clear Ai;have CO:=ah (IQ _ _ _ 31 30 1 0 32 _ _ _ _ wb (Nat.le_refl _) (by omega) (by omega) (by omega) (by omega) HRu.out HRo.out);clear HRu HRo wu uz;rcases up_ord (pn:=pn) (d:=d) (by omega) with ⟨QL,hO2⟩ | ⟨QL,hO2⟩ | ⟨QL,hO2⟩
      ·rw [QL] at CO
       obtain rfl:bu=true:=by
        rw [HBU.out];exact decide_eq_true hO2
       clear QL hO2;go_wp2_with fail;refine CO.out.mono ?_;rintro e wd ⟨rfl,hbd⟩;have HKd:=ah (NZ.out.below hbd);have HUd:=ah (HUB.out.below hbd);clear hbd CO;go_wp2_with fail;all_goals go_meet
       all_goals exact ⟨rfl,HKd,HUd⟩
      ·rw [QL] at CO
       obtain rfl:bu=false:=by
        rw [HBU.out];exact decide_eq_false hO2
       clear QL hO2;go_wp2_with fail;refine CO.out.mono ?_;rintro e wd ⟨rfl,hbd⟩;have HKd:=ah (NZ.out.below hbd);have HUd:=ah (HUB.out.below hbd);clear hbd CO;go_wp2_with fail;all_goals go_meet
       all_goals exact ⟨rfl,HKd,HUd⟩
      ·rw [QL] at CO
       obtain rfl:bu=false:=by
        rw [HBU.out];exact decide_eq_false hO2
       clear QL hO2;go_wp2_with fail;refine CO.out.mono ?_;rintro e wd ⟨rfl,hbd⟩;have HKd:=ah (NZ.out.below hbd);have HUd:=ah (HUB.out.below hbd);clear hbd CO;go_wp2_with fail;all_goals go_meet
       all_goals exact ⟨rfl,HKd,HUd⟩
     case rest=>
      obtain ⟨rfl,HKc,HUc⟩:=hcut;clear NZ HUB;obtain ⟨UP,hUP⟩:∃UP,UP=aU pn d*(d:Int):=⟨_,rfl⟩;have HUP:=ah hUP;clear hUP;go_upto_if 52 with fail;go_cut [] (fun wx=>Hid (ED w #[.int .i64 aK,.int .i64 low,.int .i64 aD,.int .i64 aA,.int .i64 ay,.int .i64 ak,.bool aI,.bool rel,.slice ao l.length cap] xb ob pn d wx)∧Hid (gY wx ub UP (d*d) 32 30))
      case first=>
       cases bu
       ·have R4:=ah (show 2*pn*d=UP from by
         have:=of_decide_eq_false HBU.out.symm;rw [HUP.out];unfold aU;rw [if_pos (by omega)])
        go_wp2_with fail;all_goals go_meet
        all_goals exact ⟨HKc,ah (by rw [←R4.out];exact HUc.out.wide (by omega) (by omega))⟩
       ·have R4:=ah (show (2*d-2*pn)*d=UP from by
         have:=of_decide_eq_true HBU.out.symm;rw [HUP.out];unfold aU;rw [if_neg (by omega)])
        have HU2:=ah (show 2*((d*d:Nat):Int)-2*pn*d*((1:Nat):Int)=(2*d-2*pn)*d from by
         push_cast;grind)
        go_upto_region 8 with fail;refine aX (by kernel_rfl) 3 (by simp) (by kernel_rfl) (by kernel_rfl) (by kernel_rfl) (by kernel_rfl) (fun jx vx wx=>match jx with | 0=>bM wx.heap.size wx vx (2) (1) 1 0 | 1=>bM wx.heap.size wx vx (2*pn*d) (d*d) 31 30 | 2=>bM wx.heap.size wx vx ((2*d-2*pn)*d) (d*d) 32 30 | _=>True) (fun W=>Below wc.heap.size wc W) (fun wx wy=>Below wx.heap.size wx wy) (Below.refl _ _).drew ?_ ?_ ?_ ?_
        ·intro jx vx wx wy h g
         match jx,h with
         | 0,h | 1,h | 2,h=>exact bM.up h g
         | jx+3,h=>exact trivial
        ·intro jx ox dx hj ho hd;exact bO (by kernel_rfl) hj ho hd
        ·intro ix ox ax W hi aC hsh hW hpre;have hsz:wc.heap.size≤W.heap.size:=hW.size;have GA:∀ob,Below W.heap.size W (W.alloc ob):=fun ob=>(Below.refl _ _).alloc (Nat.le_refl _) ob;have WA:∀ob,Below wc.heap.size wc (W.alloc ob):=fun ob=>hW.alloc hsz ob;have ER:ax.tmps[13]?.getD undef=(.pointer (some ⟨ub,0,none⟩)):=gT (hsh.2.2 13 (aM (by kernel_rfl)));obtain ⟨s_u,a_u,L_u,c_u,b_u,M_u,d_u,wu,vJ⟩:=(HUc.out.below hW);obtain ⟨xu0,xu1,xu2⟩:=pG wu;clear hsh
         match ix,hi,aC with
         | 0,_,aC=>
          cases aC;refine aG (by simp [execOp,Act.eval,go_sem]) ((gZ (2) 1 W (by omega) (by omega) (by decide)).mono ?_);rintro ex wy ⟨vn,rfl,hq,hb⟩;exact ⟨vn,rfl,_,rfl,hq,hW.trans (hb.mono hsz),hb⟩
         | 1,_,aC=>
          cases aC;exact au (w':=W) (by simp [execOp,Act.eval,ER,xu0,xu1,xu2,go_sem]) ⟨_,rfl,vJ,hW,Below.refl _ _⟩
         | 2,_,aC=>
          cases aC;obtain ⟨v0,f0,r0⟩:=gR (fun v=>bM W.heap.size W v (2) (1) 1 0) (hpre ⟨0,.data⟩ (by simp) (by rfl) _ _ rfl rfl);obtain ⟨v1,f1,r1⟩:=gR (fun v=>bM W.heap.size W v (2*pn*d) (d*d) 31 30) (hpre ⟨1,.data⟩ (by simp) (by rfl) _ _ rfl rfl);refine aG (by simp [execOp,Act.eval,f0,f1,go_sem]) (((qA W.heap.size _ _ 1 0 31 30 32 _ _ _ _ W (Nat.le_refl _) (by omega) (by omega) (by omega) (by omega) r0 r1).mono (fun _ _ h=>eX h HU2.out (Nat.one_mul _))).mono ?_);rintro ex wy ⟨vn,rfl,hq,hb⟩;exact ⟨vn,rfl,_,rfl,hq,hW.trans (hb.mono hsz),hb⟩
         | ix+3,hi,_=>exact absurd hi (by omega)
        ·intro ax w8 hsh hW hφ;have q0:bM w8.heap.size w8 (ax.tmps.getD 53 undef) (2) (1) 1 0:=hφ 0 _ _ (by omega) rfl rfl;obtain ⟨v0,e0⟩:∃v,ax.tmps.getD 53 undef=v:=⟨_,rfl⟩;rw [e0] at q0;have Q0:=ah q0;clear q0;have q1:bM w8.heap.size w8 (ax.tmps.getD 54 undef) (2*pn*d) (d*d) 31 30:=hφ 1 _ _ (by omega) rfl rfl;obtain ⟨v1,e1⟩:∃v,ax.tmps.getD 54 undef=v:=⟨_,rfl⟩;rw [e1] at q1;have Q1:=ah q1;clear q1;have q2:bM w8.heap.size w8 (ax.tmps.getD 55 undef) ((2*d-2*pn)*d) (d*d) 32 30:=hφ 2 _ _ (by omega) rfl rfl;obtain ⟨v2,e2⟩:∃v,ax.tmps.getD 55 undef=v:=⟨_,rfl⟩;rw [e2] at q2;have Q2:=ah q2;clear q2;rw [bf hsh [(53,_),(54,_),(55,_)] [53,54,55] rfl (by kernel_rfl) ⟨e0,e1,e2,trivial⟩];clear hφ hsh e0 e1 e2;simp only [cB,List.foldl_cons,List.foldl_nil,List.drop_succ_cons,List.drop_zero,Act.put,List.setIfInBounds_toArray,List.set_cons_succ,List.set_cons_zero];have HK8:=ah (HKc.out.below hW);have HU8:=ah (HUc.out.below hW);clear hW HKc;refine bX w8 rfl _ _ rfl ub rfl rfl Q2.out HU8.out.any ?_;intro w9 QY SY;simp only [Act.put];have HK9:=ah (HK8.out.wM SY (by omega) (by omega) (by omega));have HU9:=ah QY;clear QY SY Q0 Q1 Q2;go_wp2_with fail;all_goals go_meet
         all_goals exact ⟨HK9,ah (by rw [←R4.out];exact HU9.out)⟩
      case rest=>
       have oM:Hid (ED w #[.int .i64 aK,.int .i64 low,.int .i64 aD,.int .i64 aA,.int .i64 ay,.int .i64 ak,.bool aI,.bool rel,.slice ao l.length cap] xb ob pn d wc):=hcut.1;have HUU:Hid (gY wc ub UP (d*d) 32 30):=hcut.2;clear hcut HUc;rcases R3.out with jY | jY | jY | jY | jY | jY | jY
       ·have e0:=oM.out.1.cell (i:=0) rfl;have hle:=oM.out.1.lt;have HV:=ah (AJ.out.symm.trans ((congrArg (fun ff=>oK ff ay l c pn d pk aL) jY).trans (wv1 ay l c pn d pk aL)));have cf1:(aK==1)=true:=by rw [jY]<;>rfl
        have cf3:(aK==3)=false:=by rw [jY]<;>rfl
        have cf4:(aK==4)=false:=by rw [jY]<;>rfl
        have cf5:(aK==5)=false:=by rw [jY]<;>rfl
        have cf6:(aK==6)=false:=by rw [jY]<;>rfl
        have cf7:(aK==7)=false:=by rw [jY]<;>rfl
        clear jY;go_upto_region 11 with fail;go_cut [] (fun wx=>Hid (gY wx (w.heap.size+1) (UP) (d*d) 130 130)∧Hid (Below w.heap.size w wx))
        case first=>
         obtain ⟨s_u,a_u,L_u,c_u,b_u,M_u,d_u,wu,vJ⟩:=HUU.out;obtain ⟨xu0,xu1,xu2⟩:=pG wu;have hlu:=wu.lt;have HRu:=ah vJ;clear vJ;obtain ⟨s_r,a_r,L_r,c_r,b_r,M_r,d_r,fO,oZ⟩:=oM.out.2.1.q0;obtain ⟨xr0,xr1,xr2⟩:=pG fO;have hlr:=fO.lt;have HRr:=ah oZ;clear oZ;have fr0:=fO.frozen 0;have fr1:=fO.frozen 1;have fr2:=fO.frozen 2;have G7:=ah (je oM.out.2.1 (HRu.out.wide (m':=130) (n':=130) (by omega) (by omega)));have N7:=ah (bN (u0:=.bool s_u) (u1:=.slice a_u L_u c_u) (u2:=.slice b_u M_u d_u) oM.out.2.2.2.2.2 (show w.heap.size≤w.heap.size+1 by omega));clear fO wu;go_wp2_with fail;all_goals go_meet
         all_goals exact ⟨G7,N7⟩
        case rest=>
         rename_i KK Jk
         obtain ⟨Dj,gu⟩:=hcut;obtain ⟨s8,a8,L8,c8,b8,M8,d8,oO,Bc⟩:=Dj.out;have x0:=oO.cell (i:=0) rfl;have x1:=oO.cell (i:=1) rfl;have x2:=oO.cell (i:=2) rfl;refine Jk _ _ (wp_ret ?_);exact bodyPost_ret (v:=.agg #[.bool s8,.slice a8 L8 c8,.slice b8 M8 d8]) (by simp [results,Tryz.results52,go_sem,x0,x1,x2]) rfl ⟨_,UP,d*d,rfl,Bc,by rw [HV.out,HUP.out];exact rat1,gu.out⟩
       ·have e0:=oM.out.1.cell (i:=0) rfl;have hle:=oM.out.1.lt;have HV:=ah (AJ.out.symm.trans ((congrArg (fun ff=>oK ff ay l c pn d pk aL) jY).trans (wv2 ay l c pn d pk aL)));have cf1:(aK==1)=false:=by rw [jY]<;>rfl
        have cf3:(aK==3)=false:=by rw [jY]<;>rfl
        have cf4:(aK==4)=false:=by rw [jY]<;>rfl
        have cf5:(aK==5)=false:=by rw [jY]<;>rfl
        have cf6:(aK==6)=false:=by rw [jY]<;>rfl
        have cf7:(aK==7)=false:=by rw [jY]<;>rfl
        clear jY;go_upto_region 24 with fail;go_cut [] (fun wx=>Hid (gY wx (w.heap.size+1) (pn) (d) 130 130)∧Hid (Below w.heap.size w wx))
        case first=>
         obtain ⟨LK,NQ,NU,NC,NI,NS,Nv,gJ,jC⟩:=oM.out.2.2.1;obtain ⟨AR,AQ,AP⟩:=pG gJ;have hlx:=gJ.lt;have Bv:=ah jC;clear jC;obtain ⟨s_r,a_r,L_r,c_r,b_r,M_r,d_r,fO,oZ⟩:=oM.out.2.1.q0;obtain ⟨xr0,xr1,xr2⟩:=pG fO;have hlr:=fO.lt;have HRr:=ah oZ;clear oZ;have fr0:=fO.frozen 0;have fr1:=fO.frozen 1;have fr2:=fO.frozen 2;have G7:=ah (je oM.out.2.1 (Bv.out.wide (m':=130) (n':=130) (by omega) (by omega)));have N7:=ah (bN (u0:=.bool LK) (u1:=.slice NQ NU NC) (u2:=.slice NI NS Nv) oM.out.2.2.2.2.2 (show w.heap.size≤w.heap.size+1 by omega));clear fO gJ;go_wp2_with fail;all_goals go_meet
         all_goals exact ⟨G7,N7⟩
        case rest=>
         rename_i KK Jk
         obtain ⟨Dj,gu⟩:=hcut;obtain ⟨s8,a8,L8,c8,b8,M8,d8,oO,Bc⟩:=Dj.out;have x0:=oO.cell (i:=0) rfl;have x1:=oO.cell (i:=1) rfl;have x2:=oO.cell (i:=2) rfl;refine Jk _ _ (wp_ret ?_);exact bodyPost_ret (v:=.agg #[.bool s8,.slice a8 L8 c8,.slice b8 M8 d8]) (by simp [results,Tryz.results52,go_sem,x0,x1,x2]) rfl ⟨_,pn,d,rfl,Bc,by rw [HV.out],gu.out⟩
       ·have HONE:=ah (show 1*(d:Int)-pn*((1:Nat):Int)=(d:Int)-pn from by omega);have e0:=oM.out.1.cell (i:=0) rfl;have hle:=oM.out.1.lt;have HV:=ah (AJ.out.symm.trans ((congrArg (fun ff=>oK ff ay l c pn d pk aL) jY).trans (wv3 ay l c pn d pk aL)));have cf1:(aK==1)=false:=by rw [jY]<;>rfl
        have cf3:(aK==3)=true:=by rw [jY]<;>rfl
        have cf4:(aK==4)=false:=by rw [jY]<;>rfl
        have cf5:(aK==5)=false:=by rw [jY]<;>rfl
        have cf6:(aK==6)=false:=by rw [jY]<;>rfl
        have cf7:(aK==7)=false:=by rw [jY]<;>rfl
        clear jY;go_upto_region 13 with fail;go_cut [] (fun wx=>Hid (gY wx (w.heap.size+1) ((d:Int)-pn) (d) 130 130)∧Hid (Below w.heap.size w wx))
        case first=>
         obtain ⟨LK,NQ,NU,NC,NI,NS,Nv,gJ,jC⟩:=oM.out.2.2.1;obtain ⟨AR,AQ,AP⟩:=pG gJ;have hlx:=gJ.lt;have Bv:=ah jC;clear jC;obtain ⟨s_o,a_o,L_o,c_o,b_o,M_o,d_o,uz,Ai⟩:=oM.out.2.2.2.1;obtain ⟨xo0,xo1,xo2⟩:=pG uz;have hlo:=uz.lt;have HRo:=ah Ai;clear Ai;clear gJ uz;go_wp2_with fail;refine ((qA _ _ _ 1 0 15 15 17 _ _ _ _ _ (Nat.le_refl _) (by omega) (by omega) (by omega) (by omega) HRo.out Bv.out).mono (fun _ _ h=>eX (P':=(d:Int)-pn) (D':=d) h HONE.out (Nat.one_mul _))).mono ?_;rintro e wa ⟨va,rfl,wY,hba⟩;obtain ⟨LM,a_v,NV,ND,NJ,NT,Nw,rfl⟩:=fB wY;have HQa:=ah wY;have sO:=ah (oM.out.below hba);clear wY hba;obtain ⟨s_r,a_r,L_r,c_r,b_r,M_r,d_r,fO,oZ⟩:=sO.out.2.1.q0;obtain ⟨xr0,xr1,xr2⟩:=pG fO;have hlr:=fO.lt;have HRr:=ah oZ;clear oZ;have fr0:=fO.frozen 0;have fr1:=fO.frozen 1;have fr2:=fO.frozen 2;have G7:=ah (je sO.out.2.1 (HQa.out.wide (m':=130) (n':=130) (by omega) (by omega)));have N7:=ah (bN (u0:=.bool LM) (u1:=.slice a_v NV ND) (u2:=.slice NJ NT Nw) sO.out.2.2.2.2.2 (show w.heap.size≤w.heap.size+1 by omega));clear fO;go_wp2_with fail;all_goals go_meet
         all_goals exact ⟨G7,N7⟩
        case rest=>
         rename_i KK Jk
         obtain ⟨Dj,gu⟩:=hcut;obtain ⟨s8,a8,L8,c8,b8,M8,d8,oO,Bc⟩:=Dj.out;have x0:=oO.cell (i:=0) rfl;have x1:=oO.cell (i:=1) rfl;have x2:=oO.cell (i:=2) rfl;refine Jk _ _ (wp_ret ?_);exact bodyPost_ret (v:=.agg #[.bool s8,.slice a8 L8 c8,.slice b8 M8 d8]) (by simp [results,Tryz.results52,go_sem,x0,x1,x2]) rfl ⟨_,(d:Int)-pn,d,rfl,Bc,by rw [HV.out],gu.out⟩
       ·have hle:=oM.out.1.lt;have HV:=ah (AJ.out.symm.trans ((congrArg (fun ff=>oK ff ay l c pn d pk aL) jY).trans (wv4 ay l c pn d pk aL)));have cf1:(aK==1)=false:=by rw [jY]<;>rfl
        have cf3:(aK==3)=false:=by rw [jY]<;>rfl
        have cf4:(aK==4)=true:=by rw [jY]<;>rfl
        have cf5:(aK==5)=false:=by rw [jY]<;>rfl
        have cf6:(aK==6)=false:=by rw [jY]<;>rfl
        have cf7:(aK==7)=false:=by rw [jY]<;>rfl
        clear jY;obtain ⟨O,hO⟩:∃O,O=qp (pn*((1000:Nat):Int)-ay*(d:Int)):=⟨_,rfl⟩;have HO:=ah hO.symm
        have HON:=ah (show O<0↔pn*1000<ay*(d:Int) from by
         rw [hO,Kq];show pn*1000-ay*(d:Int)<0↔_;omega)
        clear hO;obtain ⟨ob4,Kw⟩:∃ob4,decide (O<0)=ob4:=⟨_,rfl⟩;have e0:=oM.out.1.cell (i:=0) rfl;go_upto_region 15 with fail;clear e0;refine aX (by kernel_rfl) 6 (by simp) (by kernel_rfl) (by kernel_rfl) (by kernel_rfl) (by kernel_rfl) (fun jx vx wx=>match jx with | 0=>bM wx.heap.size wx vx (pn) (d) 15 15 | 1=>vx=(.pointer (some ⟨w.heap.size,4,none⟩)) | 2=>vx=(.int .i64 ay) | 3=>bM wx.heap.size wx vx (ay) (1000) 4 4 | 4=>vx=(.int .i64 O) | 5=>vx=(.bool ob4) | _=>True) (fun W=>Below wc.heap.size wc W) (fun wx wy=>Below wx.heap.size wx wy) (Below.refl _ _).drew ?_ ?_ ?_ ?_
        ·intro jx vx wx wy h g
         match jx,h with
         | 0,h | 3,h=>exact bM.up h g
         | 1,h | 2,h | 4,h | 5,h=>exact h
         | jx+6,h=>exact trivial
        ·intro jx ox dx hj ho hd;exact bO (by kernel_rfl) hj ho hd
        ·intro ix ox ax W hi aC hsh hW hpre;have hsz:wc.heap.size≤W.heap.size:=hW.size;have GA:∀ob,Below W.heap.size W (W.alloc ob):=fun ob=>(Below.refl _ _).alloc (Nat.le_refl _) ob;have WA:∀ob,Below wc.heap.size wc (W.alloc ob):=fun ob=>hW.alloc hsz ob;have t4:ax.tmps[4]?.getD undef=(.pointer (some ⟨w.heap.size,0,none⟩)):=gT (hsh.2.2 4 (aM (by kernel_rfl)));have t11:ax.tmps[11]?.getD undef=(.pointer (some ⟨xb,0,none⟩)):=gT (hsh.2.2 11 (aM (by kernel_rfl)));obtain ⟨LK,NQ,NU,NC,NI,NS,Nv,gJ,jC⟩:=(oM.out.below hW).2.2.1;obtain ⟨AR,AQ,AP⟩:=pG gJ;have e4:=(oM.out.below hW).1.cell (i:=4) rfl;clear hsh
         match ix,hi,aC with
         | 0,_,aC=>
          cases aC;exact au (w':=W) (by simp [execOp,Act.eval,t11,AR,AQ,AP,go_sem]) ⟨_,rfl,jC,hW,Below.refl _ _⟩
         | 1,_,aC=>
          cases aC;exact au (w':=W) (by simp [execOp,Act.eval,t4,go_sem]) (aS hW)
         | 2,_,aC=>
          cases aC;have f1:=gT (hpre ⟨1,.data⟩ (by simp) (by rfl) _ _ rfl rfl);exact au (w':=W) (by simp [execOp,Act.eval,e4,f1,go_sem]) (aS hW)
         | 3,_,aC=>
          cases aC;have f2:=gT (hpre ⟨2,.data⟩ (by simp) (by rfl) _ _ rfl rfl);refine aG (by simp [execOp,Act.eval,f2,go_sem]) ((BZ ay 1000 4 4 W (by omega) (by omega) (by omega) (by omega) g4 (by decide)).mono ?_);rintro ex wy ⟨vn,rfl,hq,hb⟩;exact ⟨vn,rfl,_,rfl,hq,hW.trans (hb.mono hsz),hb⟩
         | 4,_,aC=>
          cases aC;obtain ⟨v0,f0,r0⟩:=gR (fun v=>bM W.heap.size W v (pn) (d) 15 15) (hpre ⟨0,.data⟩ (by simp) (by rfl) _ _ rfl rfl);obtain ⟨v3,f3,r3⟩:=gR (fun v=>bM W.heap.size W v (ay) (1000) 4 4) (hpre ⟨3,.data⟩ (by simp) (by rfl) _ _ rfl rfl);refine aG (by simp [execOp,Act.eval,f0,f3,go_sem]) (((IQ W.heap.size _ _ 15 15 4 4 20 _ _ _ _ W (Nat.le_refl _) (by omega) (by omega) (by omega) (by omega) r0 r3).mono (fun _ _ h=>by rw [HO.out] at h;exact h)).mono ?_);rintro ex wy ⟨rfl,hb⟩;exact ⟨_,rfl,_,rfl,rfl,hW.trans (hb.mono hsz),hb⟩
         | 5,_,aC=>
          cases aC;have f4:=gT (hpre ⟨4,.data⟩ (by simp) (by rfl) _ _ rfl rfl);exact au (w':=W) (by simp [execOp,Act.eval,Kw,f4,go_sem]) (aS hW)
         | ix+6,hi,_=>exact absurd hi (by omega)
        ·intro ax w4 hsh hW hφ;have q0:bM w4.heap.size w4 (ax.tmps.getD 68 undef) (pn) (d) 15 15:=hφ 0 _ _ (by omega) rfl rfl;obtain ⟨v0,e0⟩:∃v,ax.tmps.getD 68 undef=v:=⟨_,rfl⟩;rw [e0] at q0;have Q0:=ah q0;clear q0;have e1:=hφ 1 _ _ (by omega) rfl rfl;have e2:=hφ 2 _ _ (by omega) rfl rfl;have q3:bM w4.heap.size w4 (ax.tmps.getD 71 undef) (ay) (1000) 4 4:=hφ 3 _ _ (by omega) rfl rfl;obtain ⟨v3,e3⟩:∃v,ax.tmps.getD 71 undef=v:=⟨_,rfl⟩;rw [e3] at q3;have Q3:=ah q3;clear q3;have e4:=hφ 4 _ _ (by omega) rfl rfl;have e5:=hφ 5 _ _ (by omega) rfl rfl;rw [bf hsh [(68,_),(69,_),(70,_),(71,_),(72,_),(73,_)] [68,69,70,71,72,73] rfl (by kernel_rfl) ⟨e0,e1,e2,e3,e4,e5,trivial⟩];clear hφ hsh e0 e1 e2 e3 e4 e5;simp only [cB,List.foldl_cons,List.foldl_nil,List.drop_succ_cons,List.drop_zero,Act.put,List.setIfInBounds_toArray,List.set_cons_succ,List.set_cons_zero];have HK4:=ah (oM.out.below hW);clear hW Q0 Q3 HO oM HUU;cases ob4
         ·have HQV:=ah (show qY ay pn d=0 from if_neg (fun h=>of_decide_eq_false Kw (HON.out.2 h)));clear Kw HON;go_upto_region 17 with fail;go_cut [] (fun wx=>Hid (gY wx (w.heap.size+1) (0) (1) 130 130)∧Hid (Below w.heap.size w wx))
          case first=>
           skip;go_wp2_with fail;refine (gZ 0 1 _ (by omega) (by omega) (by decide)).mono ?_;rintro e wa ⟨va,rfl,wY,hba⟩;obtain ⟨LM,a_v,NV,ND,NJ,NT,Nw,rfl⟩:=fB wY;have HQa:=ah wY;have sO:=ah (HK4.out.below hba);clear wY hba;obtain ⟨s_r,a_r,L_r,c_r,b_r,M_r,d_r,fO,oZ⟩:=sO.out.2.1.q0;obtain ⟨xr0,xr1,xr2⟩:=pG fO;have hlr:=fO.lt;have HRr:=ah oZ;clear oZ;have fr0:=fO.frozen 0;have fr1:=fO.frozen 1;have fr2:=fO.frozen 2;have G7:=ah (je sO.out.2.1 (HQa.out.wide (m':=130) (n':=130) (by omega) (by omega)));have N7:=ah (bN (u0:=.bool LM) (u1:=.slice a_v NV ND) (u2:=.slice NJ NT Nw) sO.out.2.2.2.2.2 (show w.heap.size≤w.heap.size+1 by omega));clear fO;go_wp2_with fail;all_goals go_meet
           all_goals exact ⟨G7,N7⟩
          case rest=>
           rename_i KK Jk
           obtain ⟨Dj,gu⟩:=hcut;obtain ⟨s8,a8,L8,c8,b8,M8,d8,oO,Bc⟩:=Dj.out;have x0:=oO.cell (i:=0) rfl;have x1:=oO.cell (i:=1) rfl;have x2:=oO.cell (i:=2) rfl;refine Jk _ _ (wp_ret ?_);exact bodyPost_ret (v:=.agg #[.bool s8,.slice a8 L8 c8,.slice b8 M8 d8]) (by simp [results,Tryz.results52,go_sem,x0,x1,x2]) rfl ⟨_,0,1,rfl,Bc,by rw [HV.out,HQV.out];rfl,gu.out⟩
         ·have HQV:=ah (show qY ay pn d=1 from if_pos (HON.out.1 (of_decide_eq_true Kw)));clear Kw HON;go_upto_region 16 with fail;go_cut [] (fun wx=>Hid (gY wx (w.heap.size+1) (1) (1) 130 130)∧Hid (Below w.heap.size w wx))
          case first=>
           obtain ⟨s_o,a_o,L_o,c_o,b_o,M_o,d_o,uz,Ai⟩:=HK4.out.2.2.2.1;obtain ⟨xo0,xo1,xo2⟩:=pG uz;have hlo:=uz.lt;have HRo:=ah Ai;clear Ai;obtain ⟨s_r,a_r,L_r,c_r,b_r,M_r,d_r,fO,oZ⟩:=HK4.out.2.1.q0;obtain ⟨xr0,xr1,xr2⟩:=pG fO;have hlr:=fO.lt;have HRr:=ah oZ;clear oZ;have fr0:=fO.frozen 0;have fr1:=fO.frozen 1;have fr2:=fO.frozen 2;have G7:=ah (je HK4.out.2.1 (HRo.out.wide (m':=130) (n':=130) (by omega) (by omega)));have N7:=ah (bN (u0:=.bool s_o) (u1:=.slice a_o L_o c_o) (u2:=.slice b_o M_o d_o) HK4.out.2.2.2.2.2 (show w.heap.size≤w.heap.size+1 by omega));clear fO uz;go_wp2_with fail;all_goals go_meet
           all_goals exact ⟨G7,N7⟩
          case rest=>
           rename_i KK Jk
           obtain ⟨Dj,gu⟩:=hcut;obtain ⟨s8,a8,L8,c8,b8,M8,d8,oO,Bc⟩:=Dj.out;have x0:=oO.cell (i:=0) rfl;have x1:=oO.cell (i:=1) rfl;have x2:=oO.cell (i:=2) rfl;refine Jk _ _ (wp_ret ?_);exact bodyPost_ret (v:=.agg #[.bool s8,.slice a8 L8 c8,.slice b8 M8 d8]) (by simp [results,Tryz.results52,go_sem,x0,x1,x2]) rfl ⟨_,1,1,rfl,Bc,by rw [HV.out,HQV.out];rfl,gu.out⟩
       ·have e0:=oM.out.1.cell (i:=0) rfl;have hle:=oM.out.1.lt;have HV:=ah (AJ.out.symm.trans ((congrArg (fun ff=>oK ff ay l c pn d pk aL) jY).trans (wv5 ay l c pn d pk aL)));have cf1:(aK==1)=false:=by rw [jY]<;>rfl
        have cf3:(aK==3)=false:=by rw [jY]<;>rfl
        have cf4:(aK==4)=false:=by rw [jY]<;>rfl
        have cf5:(aK==5)=true:=by rw [jY]<;>rfl
        have cf6:(aK==6)=false:=by rw [jY]<;>rfl
        have cf7:(aK==7)=false:=by rw [jY]<;>rfl
        clear jY;obtain ⟨U3,hU3⟩:∃U3,U3=3*((d*d*(d*d):Nat):Int)-(UP*((d*d:Nat):Int)+UP*((d*d:Nat):Int))*((1:Nat):Int):=⟨_,rfl⟩;have HU3:=ah hU3.symm;have HRAT:=ah (O8 (pn:=pn) HUP.out hU3);clear hU3;go_upto_region 19 with fail;clear e0;go_cut [] (fun wx=>Hid (gY wx (w.heap.size+1) (UP*UP*U3) (d*d*(d*d)*(1*(d*d*(d*d)))) 130 130)∧Hid (Below w.heap.size w wx))
        case first=>
         refine aX (by kernel_rfl) 9 (by simp) (by kernel_rfl) (by kernel_rfl) (by kernel_rfl) (by kernel_rfl) (fun jx vx wx=>match jx with | 0=>bM wx.heap.size wx vx (UP) (d*d) 32 30 | 1=>bM wx.heap.size wx vx (UP) (d*d) 32 30 | 2=>bM wx.heap.size wx vx (UP*UP) (d*d*(d*d)) 64 60 | 3=>bM wx.heap.size wx vx (3) (1) 1 0 | 4=>bM wx.heap.size wx vx (UP) (d*d) 32 30 | 5=>bM wx.heap.size wx vx (UP) (d*d) 32 30 | 6=>bM wx.heap.size wx vx (UP*((d*d:Nat):Int)+UP*((d*d:Nat):Int)) (d*d*(d*d)) 63 60 | 7=>bM wx.heap.size wx vx (U3) (1*(d*d*(d*d))) 64 60 | 8=>bM wx.heap.size wx vx (UP*UP*U3) (d*d*(d*d)*(1*(d*d*(d*d)))) 128 120 | _=>True) (fun W=>Below wc.heap.size wc W) (fun wx wy=>Below wx.heap.size wx wy) (Below.refl _ _).drew ?_ ?_ ?_ ?_
         ·intro jx vx wx wy h g
          match jx,h with
          | 0,h | 1,h | 2,h | 3,h | 4,h | 5,h | 6,h | 7,h | 8,h=>exact bM.up h g
          | jx+9,h=>exact trivial
         ·intro jx ox dx hj ho hd;exact bO (by kernel_rfl) hj ho hd
         ·intro ix ox ax W hi aC hsh hW hpre;have hsz:wc.heap.size≤W.heap.size:=hW.size;have GA:∀ob,Below W.heap.size W (W.alloc ob):=fun ob=>(Below.refl _ _).alloc (Nat.le_refl _) ob;have WA:∀ob,Below wc.heap.size wc (W.alloc ob):=fun ob=>hW.alloc hsz ob;have ER:ax.tmps[13]?.getD undef=(.pointer (some ⟨ub,0,none⟩)):=gT (hsh.2.2 13 (aM (by kernel_rfl)));obtain ⟨s_u,a_u,L_u,c_u,b_u,M_u,d_u,wu,vJ⟩:=(HUU.out.below hW);obtain ⟨xu0,xu1,xu2⟩:=pG wu;clear hsh
          match ix,hi,aC with
          | 0,_,aC=>
           cases aC;exact au (w':=W) (by simp [execOp,Act.eval,ER,xu0,xu1,xu2,go_sem]) ⟨_,rfl,vJ,hW,Below.refl _ _⟩
          | 1,_,aC=>
           cases aC;exact au (w':=W) (by simp [execOp,Act.eval,ER,xu0,xu1,xu2,go_sem]) ⟨_,rfl,vJ,hW,Below.refl _ _⟩
          | 2,_,aC=>
           cases aC;obtain ⟨v0,f0,r0⟩:=gR (fun v=>bM W.heap.size W v (UP) (d*d) 32 30) (hpre ⟨0,.data⟩ (by simp) (by rfl) _ _ rfl rfl);obtain ⟨v1,f1,r1⟩:=gR (fun v=>bM W.heap.size W v (UP) (d*d) 32 30) (hpre ⟨1,.data⟩ (by simp) (by rfl) _ _ rfl rfl);refine aG (by simp [execOp,Act.eval,f0,f1,go_sem]) ((uy W.heap.size _ _ 32 30 32 30 _ _ _ _ W (Nat.le_refl _) (by omega) (by omega) r0 r1).mono ?_);rintro ex wy ⟨vn,rfl,hq,hb⟩;exact ⟨vn,rfl,_,rfl,hq,hW.trans (hb.mono hsz),hb⟩
          | 3,_,aC=>
           cases aC;refine aG (by simp [execOp,Act.eval,go_sem]) ((gZ (3) 1 W (by omega) (by omega) (by decide)).mono ?_);rintro ex wy ⟨vn,rfl,hq,hb⟩;exact ⟨vn,rfl,_,rfl,hq,hW.trans (hb.mono hsz),hb⟩
          | 4,_,aC=>
           cases aC;exact au (w':=W) (by simp [execOp,Act.eval,ER,xu0,xu1,xu2,go_sem]) ⟨_,rfl,vJ,hW,Below.refl _ _⟩
          | 5,_,aC=>
           cases aC;exact au (w':=W) (by simp [execOp,Act.eval,ER,xu0,xu1,xu2,go_sem]) ⟨_,rfl,vJ,hW,Below.refl _ _⟩
          | 6,_,aC=>
           cases aC;obtain ⟨v4,f4,r4⟩:=gR (fun v=>bM W.heap.size W v (UP) (d*d) 32 30) (hpre ⟨4,.data⟩ (by simp) (by rfl) _ _ rfl rfl);obtain ⟨v5,f5,r5⟩:=gR (fun v=>bM W.heap.size W v (UP) (d*d) 32 30) (hpre ⟨5,.data⟩ (by simp) (by rfl) _ _ rfl rfl);refine aG (by simp [execOp,Act.eval,f4,f5,go_sem]) ((BR W.heap.size _ _ 32 30 32 30 63 _ _ _ _ W (Nat.le_refl _) (by omega) (by omega) (by omega) (by omega) r4 r5).mono ?_);rintro ex wy ⟨vn,rfl,hq,hb⟩;exact ⟨vn,rfl,_,rfl,hq,hW.trans (hb.mono hsz),hb⟩
          | 7,_,aC=>
           cases aC;obtain ⟨v3,f3,r3⟩:=gR (fun v=>bM W.heap.size W v (3) (1) 1 0) (hpre ⟨3,.data⟩ (by simp) (by rfl) _ _ rfl rfl);obtain ⟨v6,f6,r6⟩:=gR (fun v=>bM W.heap.size W v (UP*((d*d:Nat):Int)+UP*((d*d:Nat):Int)) (d*d*(d*d)) 63 60) (hpre ⟨6,.data⟩ (by simp) (by rfl) _ _ rfl rfl);refine aG (by simp [execOp,Act.eval,f3,f6,go_sem]) (((qA W.heap.size _ _ 1 0 63 60 64 _ _ _ _ W (Nat.le_refl _) (by omega) (by omega) (by omega) (by omega) r3 r6).mono (fun _ _ h=>eX h HU3.out rfl)).mono ?_);rintro ex wy ⟨vn,rfl,hq,hb⟩;exact ⟨vn,rfl,_,rfl,hq,hW.trans (hb.mono hsz),hb⟩
          | 8,_,aC=>
           cases aC;obtain ⟨v2,f2,r2⟩:=gR (fun v=>bM W.heap.size W v (UP*UP) (d*d*(d*d)) 64 60) (hpre ⟨2,.data⟩ (by simp) (by rfl) _ _ rfl rfl);obtain ⟨v7,f7,r7⟩:=gR (fun v=>bM W.heap.size W v (U3) (1*(d*d*(d*d))) 64 60) (hpre ⟨7,.data⟩ (by simp) (by rfl) _ _ rfl rfl);refine aG (by simp [execOp,Act.eval,f2,f7,go_sem]) ((uy W.heap.size _ _ 64 60 64 60 _ _ _ _ W (Nat.le_refl _) (by omega) (by omega) r2 r7).mono ?_);rintro ex wy ⟨vn,rfl,hq,hb⟩;exact ⟨vn,rfl,_,rfl,hq,hW.trans (hb.mono hsz),hb⟩
          | ix+9,hi,_=>exact absurd hi (by omega)
         ·intro ax w5 hsh hW hφ;have q0:bM w5.heap.size w5 (ax.tmps.getD 78 undef) (UP) (d*d) 32 30:=hφ 0 _ _ (by omega) rfl rfl;obtain ⟨v0,e0⟩:∃v,ax.tmps.getD 78 undef=v:=⟨_,rfl⟩;rw [e0] at q0;have Q0:=ah q0;clear q0;have q1:bM w5.heap.size w5 (ax.tmps.getD 79 undef) (UP) (d*d) 32 30:=hφ 1 _ _ (by omega) rfl rfl;obtain ⟨v1,e1⟩:∃v,ax.tmps.getD 79 undef=v:=⟨_,rfl⟩;rw [e1] at q1;have Q1:=ah q1;clear q1;have q2:bM w5.heap.size w5 (ax.tmps.getD 80 undef) (UP*UP) (d*d*(d*d)) 64 60:=hφ 2 _ _ (by omega) rfl rfl;obtain ⟨v2,e2⟩:∃v,ax.tmps.getD 80 undef=v:=⟨_,rfl⟩;rw [e2] at q2;have Q2:=ah q2;clear q2;have q3:bM w5.heap.size w5 (ax.tmps.getD 81 undef) (3) (1) 1 0:=hφ 3 _ _ (by omega) rfl rfl;obtain ⟨v3,e3⟩:∃v,ax.tmps.getD 81 undef=v:=⟨_,rfl⟩;rw [e3] at q3;have Q3:=ah q3;clear q3;have q4:bM w5.heap.size w5 (ax.tmps.getD 82 undef) (UP) (d*d) 32 30:=hφ 4 _ _ (by omega) rfl rfl;obtain ⟨v4,e4⟩:∃v,ax.tmps.getD 82 undef=v:=⟨_,rfl⟩;rw [e4] at q4;have Q4:=ah q4;clear q4;have q5:bM w5.heap.size w5 (ax.tmps.getD 83 undef) (UP) (d*d) 32 30:=hφ 5 _ _ (by omega) rfl rfl;obtain ⟨v5,e5⟩:∃v,ax.tmps.getD 83 undef=v:=⟨_,rfl⟩;rw [e5] at q5;have Q5:=ah q5;clear q5;have q6:bM w5.heap.size w5 (ax.tmps.getD 84 undef) (UP*((d*d:Nat):Int)+UP*((d*d:Nat):Int)) (d*d*(d*d)) 63 60:=hφ 6 _ _ (by omega) rfl rfl;obtain ⟨v6,e6⟩:∃v,ax.tmps.getD 84 undef=v:=⟨_,rfl⟩;rw [e6] at q6;have Q6:=ah q6;clear q6;have q7:bM w5.heap.size w5 (ax.tmps.getD 85 undef) (U3) (1*(d*d*(d*d))) 64 60:=hφ 7 _ _ (by omega) rfl rfl;obtain ⟨v7,e7⟩:∃v,ax.tmps.getD 85 undef=v:=⟨_,rfl⟩;rw [e7] at q7;have Q7:=ah q7;clear q7;have q8:bM w5.heap.size w5 (ax.tmps.getD 86 undef) (UP*UP*U3) (d*d*(d*d)*(1*(d*d*(d*d)))) 128 120:=hφ 8 _ _ (by omega) rfl rfl;obtain ⟨v8,e8⟩:∃v,ax.tmps.getD 86 undef=v:=⟨_,rfl⟩;rw [e8] at q8;have Q8:=ah q8;clear q8;rw [bf hsh [(78,_),(79,_),(80,_),(81,_),(82,_),(83,_),(84,_),(85,_),(86,_)] [78,79,80,81,82,83,84,85,86] rfl (by kernel_rfl) ⟨e0,e1,e2,e3,e4,e5,e6,e7,e8,trivial⟩];clear hφ hsh e0 e1 e2 e3 e4 e5 e6 e7 e8;simp only [cB,List.foldl_cons,List.foldl_nil,List.drop_succ_cons,List.drop_zero,Act.put,List.setIfInBounds_toArray,List.set_cons_succ,List.set_cons_zero];have HK5:=ah (oM.out.below hW);clear hW oM HUU;refine bX w5 rfl _ _ rfl (w.heap.size+1) rfl rfl Q8.out HK5.out.2.1 ?_;intro w6 QY SY;simp only [Act.put];have gu:=ah (aY HK5.out.2.2.2.2.2 SY.1 HK5.out.2.2.2.2.2.size (by omega));have Dj:=ah (QY.wide (m':=130) (n':=130) (by omega) (by omega));clear SY QY Q0 Q1 Q2 Q3 Q4 Q5 Q6 Q7 Q8 HK5 HU3;go_wp2_with fail;all_goals go_meet
          all_goals exact ⟨Dj,gu⟩
        case rest=>
         rename_i KK Jk
         obtain ⟨Dj,gu⟩:=hcut;obtain ⟨s8,a8,L8,c8,b8,M8,d8,oO,Bc⟩:=Dj.out;have x0:=oO.cell (i:=0) rfl;have x1:=oO.cell (i:=1) rfl;have x2:=oO.cell (i:=2) rfl;refine Jk _ _ (wp_ret ?_);exact bodyPost_ret (v:=.agg #[.bool s8,.slice a8 L8 c8,.slice b8 M8 d8]) (by simp [results,Tryz.results52,go_sem,x0,x1,x2]) rfl ⟨_,UP*UP*U3,d*d*(d*d)*(1*(d*d*(d*d))),rfl,Bc,by rw [HV.out];exact HRAT.out,gu.out⟩
       ·have e0:=oM.out.1.cell (i:=0) rfl;have hle:=oM.out.1.lt;have HV:=ah (AJ.out.symm.trans ((congrArg (fun ff=>oK ff ay l c pn d pk aL) jY).trans (wv6 ay l c pn d pk aL)));have cf1:(aK==1)=false:=by rw [jY]<;>rfl
        have cf3:(aK==3)=false:=by rw [jY]<;>rfl
        have cf4:(aK==4)=false:=by rw [jY]<;>rfl
        have cf5:(aK==5)=false:=by rw [jY]<;>rfl
        have cf6:(aK==6)=true:=by rw [jY]<;>rfl
        have cf7:(aK==7)=false:=by rw [jY]<;>rfl
        clear jY;go_upto_region 21 with fail;go_cut [] (fun wx=>Hid (gY wx (w.heap.size+1) (oL aL pk) (65536) 130 130)∧Hid (Below w.heap.size w wx))
        case first=>
         skip;go_wp2_with fail;refine (Fj aL pk _).mono ?_;rintro e wa ⟨va,rfl,wY,hba⟩;obtain ⟨LM,a_v,NV,ND,NJ,NT,Nw,rfl⟩:=fB wY;have HQa:=ah wY;have sO:=ah (oM.out.below hba);clear wY hba;obtain ⟨s_r,a_r,L_r,c_r,b_r,M_r,d_r,fO,oZ⟩:=sO.out.2.1.q0;obtain ⟨xr0,xr1,xr2⟩:=pG fO;have hlr:=fO.lt;have HRr:=ah oZ;clear oZ;have fr0:=fO.frozen 0;have fr1:=fO.frozen 1;have fr2:=fO.frozen 2;have G7:=ah (je sO.out.2.1 (HQa.out.wide (m':=130) (n':=130) (by omega) (by omega)));have N7:=ah (bN (u0:=.bool LM) (u1:=.slice a_v NV ND) (u2:=.slice NJ NT Nw) sO.out.2.2.2.2.2 (show w.heap.size≤w.heap.size+1 by omega));clear fO;go_wp2_with fail;all_goals go_meet
         all_goals exact ⟨G7,N7⟩
        case rest=>
         rename_i KK Jk
         obtain ⟨Dj,gu⟩:=hcut;obtain ⟨s8,a8,L8,c8,b8,M8,d8,oO,Bc⟩:=Dj.out;have x0:=oO.cell (i:=0) rfl;have x1:=oO.cell (i:=1) rfl;have x2:=oO.cell (i:=2) rfl;refine Jk _ _ (wp_ret ?_);exact bodyPost_ret (v:=.agg #[.bool s8,.slice a8 L8 c8,.slice b8 M8 d8]) (by simp [results,Tryz.results52,go_sem,x0,x1,x2]) rfl ⟨_,oL aL pk,65536,rfl,Bc,by rw [HV.out];rfl,gu.out⟩
       ·have e0:=oM.out.1.cell (i:=0) rfl;have e1:=oM.out.1.cell (i:=1) rfl;have e2:=oM.out.1.cell (i:=2) rfl;have e3:=oM.out.1.cell (i:=3) rfl;have e4:=oM.out.1.cell (i:=4) rfl;have e5:=oM.out.1.cell (i:=5) rfl;have e6:=oM.out.1.cell (i:=6) rfl;have e7:=oM.out.1.cell (i:=7) rfl;have e8:=oM.out.1.cell (i:=8) rfl;have hle:=oM.out.1.lt;have HV:=ah (AJ.out.symm.trans ((congrArg (fun ff=>oK ff ay l c pn d pk aL) jY).trans (wv7 ay l c pn d pk aL)));have cf1:(aK==1)=false:=by rw [jY]<;>rfl
        have cf3:(aK==3)=false:=by rw [jY]<;>rfl
        have cf4:(aK==4)=false:=by rw [jY]<;>rfl
        have cf5:(aK==5)=false:=by rw [jY]<;>rfl
        have cf6:(aK==6)=false:=by rw [jY]<;>rfl
        have cf7:(aK==7)=true:=by rw [jY]<;>rfl
        clear jY;obtain ⟨LK,NQ,NU,NC,NI,NS,Nv,gJ,jC⟩:=oM.out.2.2.1;obtain ⟨AR,AQ,AP⟩:=pG gJ;have hlx:=gJ.lt;have Bv:=ah jC;clear jC;have CA:=ah (NN aK low aD aA ay ak c pn aI rel ao cap l _ d wc (dA HS.out oM.out.2.2.2.2.2) hl R7.out.1 R7.out.2.1 R7.out.2.2.1 R7.out.2.2.2.1 R7.out.2.2.2.2 c0 c1 hd (by omega) Bv.out);clear gJ Bv;go_upto_region 23 with fail;go_cut [] (fun wx=>∃P7 D7,P7*RES.2=RES.1*((D7:Nat):Int)∧Hid (gY wx (w.heap.size+1) P7 D7 130 130)∧Hid (Below w.heap.size w wx))
        case first=>
         go_wp2_with fail;refine CA.out.mono ?_;rintro e wa ⟨va,P7,D7,rfl,wY,hrat,hba⟩;obtain ⟨LM,a_v,NV,ND,NJ,NT,Nw,rfl⟩:=fB wY;have HQa:=ah wY;have HRT:=ah hrat;have sO:=ah (oM.out.below hba);clear wY hba hrat CA;obtain ⟨s_r,a_r,L_r,c_r,b_r,M_r,d_r,fO,oZ⟩:=sO.out.2.1.q0;obtain ⟨xr0,xr1,xr2⟩:=pG fO;have hlr:=fO.lt;have HRr:=ah oZ;clear oZ;have fr0:=fO.frozen 0;have fr1:=fO.frozen 1;have fr2:=fO.frozen 2;have G7:=ah (je sO.out.2.1 (HQa.out.wide (m':=130) (n':=130) (by omega) (by omega)));have N7:=ah (bN (u0:=.bool LM) (u1:=.slice a_v NV ND) (u2:=.slice NJ NT Nw) sO.out.2.2.2.2.2 (show w.heap.size≤w.heap.size+1 by omega));clear fO;go_wp2_with fail;all_goals go_meet
         all_goals exact ⟨P7,D7,by rw [HV.out];exact HRT.out,G7,N7⟩
        case rest=>
         rename_i KK Jk
         obtain ⟨P7,D7,hrat,Dj,gu⟩:=hcut;obtain ⟨s8,a8,L8,c8,b8,M8,d8,oO,Bc⟩:=Dj.out;have x0:=oO.cell (i:=0) rfl;have x1:=oO.cell (i:=1) rfl;have x2:=oO.cell (i:=2) rfl;refine Jk _ _ (wp_ret ?_);exact bodyPost_ret (v:=.agg #[.bool s8,.slice a8 L8 c8,.slice b8 M8 d8]) (by simp [results,Tryz.results52,go_sem,x0,x1,x2]) rfl ⟨_,P7,D7,rfl,Bc,hrat,gu.out⟩
end Go.Proofs.YtopmdeefcjdadaaGreat
