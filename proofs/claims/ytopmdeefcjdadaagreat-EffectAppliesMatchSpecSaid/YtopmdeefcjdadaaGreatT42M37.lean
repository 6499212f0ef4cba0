import Derived.Test.YtopmdeefcjdadaaGreatT42M28
import Derived.Test.YtopmdeefcjdadaaGreatT42M11
import Derived.Test.YtopmdeefcjdadaaGreatT42M36
set_option maxRecDepth 100000
set_option maxHeartbeats 32000000
namespace Go.Proofs.YtopmdeefcjdadaaGreat
open Go.RowKit
def J6 (w:World) (v:Value) (X Y:Int) (m n:Nat):Prop:=∃P D,bM w.heap.size w v P D m n∧0<D∧P*Y=X*(D:Int)
def NewX (X Y:Int) (m n:Nat) (w:World) (e:Ending) (w':World):Prop:=∃v,e=.returned v∧J6 w' v X Y m n∧Below w.heap.size w w'
theorem J6.up {w w':World} {v:Value} {X Y:Int} {m n:Nat} (h:J6 w v X Y m n) (g:Below w.heap.size w w'):J6 w' v X Y m n:=by
 obtain ⟨P,D,h1,h2,h3⟩:=h;exact ⟨P,D,h1.up g,h2,h3⟩
theorem AU {w:World} {ops:Array Oper} {rest:List Oper} {o:Oper} {a:Act} {Q:Exit→Act→World→Prop} (hg:o.guard=none) (x:Operand) (hop:o.op=Op.assign x) (v:Value) (hx:a.eval x=v)
  (h:wpList Tryz.prog ops Q rest (a.put o.dst v) w):wpList Tryz.prog ops Q (o::rest) a w:=by
 refine wpList_plain hg fun K hK'=>?_;have h:=hK' _ _ h;unfold Oper.wp;simp only [execOp,hop,hx];go_simp;exact h
theorem PN {R:Int×Int} {w w':World} {e:Ending} {m n:Nat} (h:NewW R m n w e w'):NewX R.1 R.2 m n w e w':=by
 obtain ⟨v,P,D,rfl,h1,h2,h3⟩:=h;have hD:0<D:=by obtain ⟨p,d,_,_,g1,l1,_⟩:=h1;omega
 exact ⟨v,rfl,⟨P,D,h1,hD,h2⟩,h3⟩
theorem timesX {S X Y:Int} {v u:Value} (W:World) (hv:bM W.heap.size W v S 1 5 0) (hu:J6 W u X Y 130 130):Calls Tryz.prog 51 #[v,u] W (NewX (S*X) Y 135 130 W):=by
 obtain ⟨P,D,h1,h2,h3⟩:=hu;refine (uy W.heap.size _ _ 5 0 130 130 _ _ _ _ W (Nat.le_refl _) (by omega) (by omega) hv h1).mono ?_;rintro e w' ⟨x,rfl,hq,hb⟩;refine ⟨x,rfl,⟨_,_,hq,by omega,?_⟩,hb⟩;rw [Nat.one_mul,Int.mul_assoc,h3,Int.mul_assoc]
theorem plusX {L X Y:Int} {v u:Value} (W:World) (hv:bM W.heap.size W v L 1 5 0) (hu:J6 W u X Y 135 130):Calls Tryz.prog 50 #[v,u] W (NewX (L*Y+X) Y 136 130 W):=by
 obtain ⟨P,D,h1,h2,h3⟩:=hu;refine (BR W.heap.size _ _ 5 0 135 130 136 _ _ _ _ W (Nat.le_refl _) (by omega) (by omega) (by omega) (by omega) hv h1).mono ?_;rintro e w' ⟨x,rfl,hq,hb⟩;refine ⟨x,rfl,⟨_,_,hq,by omega,?_⟩,hb⟩;rw [Nat.one_mul,show ((1:Nat):Int)=1 from rfl,Int.mul_one,Int.add_mul,h3];grind
theorem abs_rel {V low aD wn wd:Int} {D:Nat} (b:Int) (h:V*wd=(low*wd+(aD-low)*wn)*(D:Int)):V*(2*wd)=Dk false low aD b wn wd*(D:Int):=by
 have e:V*(2*wd)=2*(V*wd):=by grind
 rw [e,h];simp only [Dk,Bool.false_eq_true,if_false];grind
theorem rel_rel {V low aD wn wd b:Int} {D:Nat} (h:V*wd=(low*wd+(aD-low)*wn)*(D:Int)):((V*((2:Nat):Int)-(low+aD)*(D:Int))*((1:Nat):Int)+b*((D*2:Nat):Int))*(2*wd)=Dk true low aD b wn wd*((D*2*1:Nat):Int):=by
 push_cast;have e:((V*2-(low+aD)*(D:Int))*1+b*((D:Int)*2))*(2*wd)=4*(V*wd)-2*((low+aD)*(D:Int)*wd)+4*(b*(D:Int)*wd):=by grind
 rw [e,h];simp only [Dk,if_true];grind
theorem Nl {rel:Bool} {low aD b wn wd sn sd V Pf:Int} {Dv Df:Nat} (l0:0≤low) (l1:low≤aD) (h1:aD≤65535) (b0:0≤b) (b1:b≤65535) (hw:lW (wn,wd)) (hs:Ar (sn,sd)) (hDv:0<Dv) (hV:V*(2*wd)=Dk rel low aD b wn wd*(Dv:Int)) (hP:Pf=b*((Dv:Int)*sd)+(V-b*(Dv:Int))*sn) (hD:(Df:Int)=(Dv:Int)*sd) :
  (Pf*2+(Df:Int)).natAbs / (Df*2)≤4611686018427387904:=by
 have he:=QZ hV hP hD;obtain ⟨x1,x2⟩:=Oy (rel:=rel) l0 l1 h1 b0 b1 hw hs;have a2:1≤wd:=hw.2.2.1;have c2:1≤sd:=hs.2.2.1;have hq:0<wd*sd:=Int.mul_pos (by omega) (by omega)
 have hDf:0<Df:=by
  have:(0:Int)<(Dv:Int)*sd:=Int.mul_pos (by omega) (by omega);omega
 exact Ma hDf (Q:=2*(wd*sd)) (by omega) he (by omega) (by omega)
theorem LV (r:iK) (lv uv bv:Value) (base:List dM) (x:Run) (sv kv rv:Value) (t:Int) (w:World) (hr:kV w.heap.size w r lv uv) (hcr:bR r=0) (hbs:lH w.heap.size w bv base) (hx:lY w.heap.size w x sv kv rv) (hf:nK x) (hz:dV r x=0) (t0:0≤t) (t1:t≤36000000)
  (hl:∀k∈x.aO,0≤tV r base k∧tV r base k≤65535) :
  Calls Tryz.prog 23 #[mG lv uv,uE x sv kv rv,bv,.int .i64 t] w fun e w'=>∃v,e=.returned v∧cu w.heap.size w' v (dQ x t (tV r base))∧Below w.heap.size w w':=by
 obtain ⟨hE,⟨n0,n1⟩,_,_,⟨s0,s1⟩,⟨i0,i1⟩,⟨o0,o1⟩,he,hr50,hok⟩:=mK hz;have awo:IntKind.i64.wrap (x.aN+x.aQ)=x.aN+x.aQ:=IntWalk.i64_in _ (by omega);have HLV:=ah hl
 have HPF:=ah (show ∀(u:Int) (s:ByteArray),(u,s)∈x.aO→∀W,Below w.heap.size w W→Calls Tryz.prog 43 #[.agg #[lv,uv],.agg #[.int .i64 u,.string s]] W fun e w'=>∃xv,e=.returned (.tuple #[xv,.bool (gL r u s.data.toList).isSome])∧Er w.heap.size w' (gL r u s.data.toList) xv∧Below W.heap.size W w' from
  fun u s hk W hb=>wP r lv uv w.heap.size u s W hb.size (hr.below hb) hcr (hf.2.1 _ hk).1)
 have HLI:=ah (fun (u:Int) (s:ByteArray) (df:Int) W (hb:Below w.heap.size w W)=>Dq w.heap.size bv base u s df W hb.size (hbs.below hb));have HLE:=ah (fun (u:Int) (s:ByteArray)=>show I5 base u s (((gL r u s.data.toList).map jy.dflt).getD 0)=tV r base (u,s) from rfl);have AJ:=ah (show ∀b,Al x t=b→dQ x t (tV r base)=if b then [] else ng x t (tV r base) from fun b h=>by unfold dQ;rw [h]);have um:=ah (zu x t (tV r base));have HLN:=ah (wN x t (tV r base));have HSO:=ah (fun (k:Nat) (u:Int) (s:ByteArray)=>show zn x t (tV r base) k (u,s)=⟨u,s,tT x.ef.rel x.ef.low x.ef.aD (tV r base (u,s)) (Ia x.ef k x.aO.length (mo x.aB x.aJ t)) (l6 x.aB x.bP x.aN x.aQ t)⟩ from rfl);have HWP:=ah (fun (k:Nat)=>show Ia x.ef k x.aO.length (mo x.aB x.aJ t)=oK x.ef.aK x.ef.ay x.ef.jV (pq x.ef) (AA x.ef.aI (mE (pq x.ef) x.ef.ak k x.aO.length (mo x.aB x.aJ t)) (j6 (pq x.ef) x.aO.length)) (j6 (pq x.ef) x.aO.length) (mE (pq x.ef) x.ef.ak k x.aO.length (mo x.aB x.aJ t) / j6 (pq x.ef) x.aO.length) k from rfl);clear hl hz hbs hr hcr;generalize dQ x t (tV r base)=RES at *;obtain ⟨SL,hSL⟩:∃l,ng x t (tV r base)=l:=⟨_,rfl⟩;rw [hSL] at AJ um HLN;clear hSL;generalize tV r base=nO at *;obtain ⟨⟨aK,low,aD,aA,ay,ak,aI,rel,st⟩,aO,aB,aJ,bP,aN,aQ⟩:=x;simp only [pF,pq] at *;obtain ⟨hf1,⟨l0,l9⟩,⟨h0,h9⟩,hlh,hcy,⟨wd0,wd1⟩,⟨sp0,sp1⟩,hst,hall,h6,h7⟩:=xH hE;obtain ⟨⟨c0,c1⟩,h70⟩:=Cw hE;obtain ⟨hsv,hkv,tX⟩:=hx;have HRV:=ah tX;have CST:=ah hsv;simp only [uE,mG] at *;obtain ⟨so,cO,rfl,_,_⟩:=hsv;obtain ⟨ko,dG,rfl,hk1,hk2,hk3⟩:=hkv;obtain ⟨ro,bD,rfl,_,_⟩:=tX;have HSA:=ah (show ∀W,Below w.heap.size w W→eH W.heap.size W so st from fun W hb=>pW ((CST.out.below hb).more hb.size))
 have CC:=ah (show ∀W,Below w.heap.size w W→Calls Tryz.prog 46 #[.agg #[.int .i64 aK,.int .i64 low,.int .i64 aD,.int .i64 aA,.int .i64 ay,.int .i64 ak,.bool aI,.bool rel,.slice so st.length cO,.slice ko aO.length dG,.int .i64 aB,.slice ro aJ.length bD,.int .i64 bP,.int .i64 aN,.int .i64 aQ],.int .i64 t] W fun e w'=>e=.returned (.int .i64 (mo aB aJ t))∧Below W.heap.size W w' from fun W hb=>by
  have hv:=aW.more (aW.below HRV.out hb) hb.size;by_cases hts:t≤aB
  ·exact Dx aK low aD aA ay ak aB bP aN aQ aI rel (.slice so st.length cO) (.slice ko aO.length dG) ro bD aJ t W hv hok hr50 s0 s1 t0 t1 hts
  ·exact Fg aK low aD aA ay ak aB bP aN aQ aI rel (.slice so st.length cO) (.slice ko aO.length dG) ro bD aJ t W hv hok hr50 s0 s1 t0 t1 (by omega))
 have HCB:=ah (KF (t:=t) hok s0 t1);generalize mo aB aJ t=ck at *
 have HK:=ah (show ∀k (h:k<aO.length),∃b off,ko=some ⟨b,off,none⟩∧b<w.heap.size∧∀W,Below w.heap.size w W→W.cell? ⟨b,off+k*2,none⟩=some (.int .i64 aO[k].1)∧W.cell? ⟨b,off+k*2+1,none⟩=some (.string aO[k].2) from fun k h=>by
  obtain ⟨b,off,h1,h2,h3⟩:=hk3 (by omega);have hg:=jm (fun k:Int×ByteArray=>Value.int .i64 k.1) (fun k=>.string k.2) aO k h;exact ⟨b,off,h1,h2,fun W hb=>⟨(hb.cell (p:=⟨b,off+k*2,none⟩) h2).trans (h3 _ _ hg.1),(hb.cell (p:=⟨b,off+k*2+1,none⟩) h2).trans (h3 (k*2+1) _ hg.2)⟩⟩)
 have RY:=ah (show Al ⟨⟨aK,low,aD,aA,ay,ak,aI,rel,st⟩,aO,aB,aJ,bP,aN,aQ⟩ t=(decide (t<aB)||(decide (aN≠-1)&&decide (aN+aQ≤t))) from rfl);generalize Al ⟨⟨aK,low,aD,aA,ay,ak,aI,rel,st⟩,aO,aB,aJ,bP,aN,aQ⟩ t=GB at *;have Hr:=ah (AJ.out _ rfl)
 have HNG:=ah (show GB=false→aB≤t∧(aN=-1∨t<aN+aQ) from fun h=>by
  rw [RY.out] at h;simp at h;omega)
 have ahl:IntKind.i64.wrap (aD-low)=aD-low:=IntWalk.i64_in _ (by omega);have alh:IntKind.i64.wrap (low+aD)=low+aD:=IntWalk.i64_in _ (by omega)
 have g5l:=ah (show low.natAbs≤10 ^ 5 from by
  have:low.natAbs≤100000:=by omega
  exact this)
 have g5h:=ah (show (aD-low).natAbs≤10 ^ 5 from by
  have:(aD-low).natAbs≤100000:=by omega
  exact this)
 have g6:=ah (show low+aD≤10 ^ 6 from by
  have:low+aD≤1000000:=by omega
  exact this)
 clear AJ hE hk1 hk2 hk3 hok HRV;obtain ⟨w1,hw1⟩:∃w1,w1=((w.alloc (.cells #[lv,uv] 25)).alloc (.cells #[.int .i64 aK,.int .i64 low,.int .i64 aD,.int .i64 aA,.int .i64 ay,.int .i64 ak,.bool aI,.bool rel,.slice so st.length cO,.slice ko aO.length dG,.int .i64 aB,.slice ro aJ.length bD,.int .i64 bP,.int .i64 aN,.int .i64 aQ] 32)):=⟨_,rfl⟩;have HG:=ah (show aH w1 w.heap.size 25 #[lv,uv] from hw1▸(aH.new w _ _).alloc _);have HT:=ah (show aH w1 (w.heap.size+1) 32 #[.int .i64 aK,.int .i64 low,.int .i64 aD,.int .i64 aA,.int .i64 ay,.int .i64 ak,.bool aI,.bool rel,.slice so st.length cO,.slice ko aO.length dG,.int .i64 aB,.slice ro aJ.length bD,.int .i64 bP,.int .i64 aN,.int .i64 aQ] from hw1▸(by simpa using aH.new (w.alloc (.cells #[lv,uv] 25)) #[.int .i64 aK,.int .i64 low,.int .i64 aD,.int .i64 aA,.int .i64 ay,.int .i64 ak,.bool aI,.bool rel,.slice so st.length cO,.slice ko aO.length dG,.int .i64 aB,.slice ro aJ.length bD,.int .i64 bP,.int .i64 aN,.int .i64 aQ] 32));have HB:=ah (show Below w.heap.size w w1 from hw1▸((Below.refl w.heap.size w).alloc (Nat.le_refl _) _).alloc (by simp) _);go_enter Tryz.func23,Tryz.ntmps23;go_upto_region 1 with fail;rw [←hw1];clear hw1;go_cut [38] (fun c wx=>c=.bool GB∧w1=wx)
 case first=>
  have kS:=HT.out.cell (i:=10) rfl;have ow:=HT.out.cell (i:=13) rfl;have ou:=HT.out.cell (i:=14) rfl;have ql:=HT.out.lt;by_cases hts:t<aB
  ·have HV:=ah (show GB=true by rw [RY.out];simp [hts]);go_wp2_with fail;go_meet;exact ⟨by rw [HV.out]<;>rfl,rfl⟩
  ·by_cases hte:aN=-1
   ·have HV:=ah (show GB=false by rw [RY.out];simp [hts,hte]);subst hte;go_wp2_with fail;go_meet;exact ⟨by rw [HV.out]<;>rfl,rfl⟩
   ·have hb1:aN≥0:=by omega
    have HV:=ah (show GB=decide (t≥aN+aQ) by rw [RY.out];simp [hts,hte]);go_wp2_with fail;go_meet;exact ⟨by rw [HV.out],rfl⟩
 case rest=>
  obtain ⟨rfl,rfl⟩:=hcut;clear RY;cases GB;rotate_left
  ·have HV:=ah (show RES=[] by rw [Hr.out];rfl);go_wp2_with fail;go_ret;exact ⟨_,rfl,by rw [HV.out];exact cu.nil _ _,HB.out⟩
  ·have HV:=ah (show RES=SL by rw [Hr.out];rfl);obtain ⟨Qp,hgo⟩:=HNG.out rfl;have CS:=ah (fun W=>LQ aK low aD aA ay ak aB bP aN aQ t aI rel (.slice so st.length cO) (.slice ko aO.length dG) (.slice ro aJ.length bD) W s0 Qp t1 i0 i1 o0 o1 he hgo);have HSK:=ah (Kj (aB:=aB) Qp ⟨i0,i1⟩ ⟨o0,o1⟩ hgo);generalize l6 aB bP aN aQ t=SZ at *;obtain ⟨sn,sd⟩:=SZ;simp only at CS;clear HNG Hr awo hgo;obtain ⟨KI,hKI⟩:∃f:Nat→Int×Int,(fun i:Nat=>Ia ⟨aK,low,aD,aA,ay,ak,aI,rel,st⟩ i aO.length ck)=f:=⟨_,rfl⟩;have HWQ:=ah (show ∀k:Nat,oK aK ay st (aA+dh st) (AA aI (mE (aA+dh st) ak k aO.length ck) (j6 (aA+dh st) aO.length)) (j6 (aA+dh st) aO.length) (mE (aA+dh st) ak k aO.length ck / j6 (aA+dh st) aO.length) k=KI k from fun k=>by rw [←hKI];exact (HWP.out k).symm)
   have HWK:=ah (show ∀k:Nat,k<aO.length→lW (KI k) from fun k hk=>by
    rw [←HWQ.out k];obtain ⟨d0,d1⟩:=ig (c:=aA+dh st) (count:=(aO.length:Int)) c0 c1 (by omega) (by omega);obtain ⟨y0,y1⟩:=jq aI (mE (aA+dh st) ak k aO.length ck) (show 0<j6 (aA+dh st) aO.length by omega);exact Oz hf1 h70 hall y0 y1 d0 (by omega))
   have CW:=ah (show ∀(k:Nat) W,k<aO.length→Below w.heap.size w W→Calls Tryz.prog 52 #[.agg #[.int .i64 aK,.int .i64 low,.int .i64 aD,.int .i64 aA,.int .i64 ay,.int .i64 ak,.bool aI,.bool rel,.slice so st.length cO],.int .i64 k,.int .i64 aO.length,.int .i64 ck] W (NewX (KI k).1 (KI k).2 130 130 W) from fun k W hk hb=>by
    have h:=Pm aK low aD aA ay ak aI rel so cO st k aO.length ck (aA+dh st) _ _ _ W hf1 (HSA.out W hb) hst hall hcy h6 h7 rfl c0 c1 (by omega) (by omega) (by omega) (by omega) HCB.out.1 (by have:=HCB.out.2;omega) sp0 sp1 wd0 wd1 rfl rfl rfl;rw [HWQ.out k] at h;exact h.mono fun _ _ h=>PN h)
   have HSO2:=ah (show ∀(k:Nat) (u:Int) (s:ByteArray),zn ⟨⟨aK,low,aD,aA,ay,ak,aI,rel,st⟩,aO,aB,aJ,bP,aN,aQ⟩ t nO k (u,s)=⟨u,s,tT rel low aD (nO (u,s)) (KI k) (sn,sd)⟩ from fun k u s=>by rw [HSO.out k u s,←hKI]);have rD:=ah (show (0≤low∧low≤aD)∧aD≤65535 from ⟨⟨l0,hlh⟩,h9⟩);clear HWP HSO HWQ HSA HCB hKI hf1 hcy h6 h7 h70 hall hst c0 c1 sp0 sp1 wd0 wd1;have bA:=ah (show ∀W,Below w1.heap.size w1 W→Below w.heap.size w W from fun W h=>HB.out.trans (h.mono HB.out.size));go_upto_region 3 with fail;refine aX (by kernel_rfl) 7 (by simp) (by kernel_rfl) (by kernel_rfl) (by kernel_rfl) (by kernel_rfl) (fun jx vx wx=>match jx with | 0=>vx=(.agg #[.int .i64 aK,.int .i64 low,.int .i64 aD,.int .i64 aA,.int .i64 ay,.int .i64 ak,.bool aI,.bool rel,.slice so st.length cO,.slice ko aO.length dG,.int .i64 aB,.slice ro aJ.length bD,.int .i64 bP,.int .i64 aN,.int .i64 aQ]) | 1=>vx=(.int .i64 t) | 2=>vx=(.int .i64 ck) | 3=>vx=(.agg #[.int .i64 aK,.int .i64 low,.int .i64 aD,.int .i64 aA,.int .i64 ay,.int .i64 ak,.bool aI,.bool rel,.slice so st.length cO,.slice ko aO.length dG,.int .i64 aB,.slice ro aJ.length bD,.int .i64 bP,.int .i64 aN,.int .i64 aQ]) | 4=>vx=(.int .i64 t) | 5=>bM wx.heap.size wx (vx) (sn) (sd.toNat) 16 16 | 6=>fF w1.heap.size 99 #[.bool false,.slice none 0 0,.slice none 0 0] vx wx | _=>True) (fun W=>Below w1.heap.size w1 W) (fun wx wy=>Below wx.heap.size wx wy) (Below.refl _ _).drew ?_ ?_ ?_ ?_
   ·intro jx vx wx wy h g
    match jx,h with
    | 0,h | 1,h | 2,h | 3,h | 4,h=>exact h
    | 5,h=>exact bM.up h g
    | 6,h=>exact fF.up h g
    | jx+7,h=>exact trivial
   ·intro jx ox dx hj ho hd;exact bO (by kernel_rfl) hj ho hd
   ·intro ix ox ax W hi aC hsh hW hpre;have hsz:w1.heap.size≤W.heap.size:=hW.size;have GA:∀ob,Below W.heap.size W (W.alloc ob):=fun ob=>(Below.refl _ _).alloc (Nat.le_refl _) ob;have WA:∀ob,Below w1.heap.size w1 (W.alloc ob):=fun ob=>hW.alloc hsz ob;have t3:ax.tmps[3]?.getD undef=(.int .i64 t):=gT (hsh.2.2 3 (aM (by kernel_rfl)));have t5:ax.tmps[5]?.getD undef=(.pointer (some ⟨(w.heap.size+1),0,none⟩)):=gT (hsh.2.2 5 (aM (by kernel_rfl)));obtain ⟨q0,q1,q2,q3,q4,q5,q6,q7,q8,q9,kS,l7,nk,ow,ou⟩:=c15 (HT.out.below hW);clear hsh
    match ix,hi,aC with
    | 0,_,aC=>
     cases aC;exact au (w':=W) (by simp [execOp,Act.eval,t5,q0,q1,q2,q3,q4,q5,q6,q7,q8,q9,kS,l7,nk,ow,ou,go_sem]) (aS hW)
    | 1,_,aC=>
     cases aC;exact au (w':=W) (by simp [execOp,Act.eval,t3,go_sem]) (aS hW)
    | 2,_,aC=>
     cases aC;have f0:=gT (hpre ⟨0,.data⟩ (by simp) (by rfl) _ _ rfl rfl);have f1:=gT (hpre ⟨1,.data⟩ (by simp) (by rfl) _ _ rfl rfl);refine aG (by simp [execOp,Act.eval,f0,f1,go_sem]) ((CC.out W (bA.out W hW)).mono ?_);rintro ex wy ⟨rfl,hb⟩;exact ⟨_,rfl,_,rfl,rfl,hW.trans (hb.mono hsz),hb⟩
    | 3,_,aC=>
     cases aC;exact au (w':=W) (by simp [execOp,Act.eval,t5,q0,q1,q2,q3,q4,q5,q6,q7,q8,q9,kS,l7,nk,ow,ou,go_sem]) (aS hW)
    | 4,_,aC=>
     cases aC;exact au (w':=W) (by simp [execOp,Act.eval,t3,go_sem]) (aS hW)
    | 5,_,aC=>
     cases aC;have f3:=gT (hpre ⟨3,.data⟩ (by simp) (by rfl) _ _ rfl rfl);have f4:=gT (hpre ⟨4,.data⟩ (by simp) (by rfl) _ _ rfl rfl);refine aG (by simp [execOp,Act.eval,f3,f4,go_sem]) ((CS.out W).mono ?_);rintro ex wy ⟨vn,rfl,hq,hb⟩;exact ⟨vn,rfl,_,rfl,hq,hW.trans (hb.mono hsz),hb⟩
    | 6,_,aC=>
     cases aC;exact au (v:=.pointer (some ⟨W.heap.size,0,none⟩)) (w':=W.alloc (.cells #[.bool false,.slice none 0 0,.slice none 0 0] 99)) (by simp [execOp,Act.eval,jo,go_sem]) ⟨_,rfl,fF.new _ _ hsz,WA _,GA _⟩
    | ix+7,hi,_=>exact absurd hi (by omega)
   ·intro ax w2 hsh hW hφ;have e0:=hφ 0 _ _ (by omega) rfl rfl;have e1:=hφ 1 _ _ (by omega) rfl rfl;have e2:=hφ 2 _ _ (by omega) rfl rfl;have e3:=hφ 3 _ _ (by omega) rfl rfl;have e4:=hφ 4 _ _ (by omega) rfl rfl;have q5:bM w2.heap.size w2 (ax.tmps.getD 44 undef) (sn) (sd.toNat) 16 16:=hφ 5 _ _ (by omega) rfl rfl;obtain ⟨v5,e5⟩:∃v,ax.tmps.getD 44 undef=v:=⟨_,rfl⟩;rw [e5] at q5;have Q5:=ah q5;clear q5;obtain ⟨b6,e6,hb6,Oe⟩:=hφ 6 _ _ (by omega) rfl rfl;rw [bf hsh [(39,_),(40,_),(41,_),(42,_),(43,_),(44,_),(10,_)] [39,40,41,42,43,44,10] rfl (by kernel_rfl) ⟨e0,e1,e2,e3,e4,e5,e6,trivial⟩];clear hφ hsh e0 e1 e2 e3 e4 e5 e6;simp only [cB,List.foldl_cons,List.foldl_nil,List.drop_succ_cons,List.drop_zero,Act.put,List.setIfInBounds_toArray,List.set_cons_succ,List.set_cons_zero];have yP:=hW.size;have hlt1:=HT.out.lt;refine AU rfl _ rfl (.int .i64 ck) rfl ?_;simp only [Act.put,List.setIfInBounds_toArray,List.set_cons_succ,List.set_cons_zero];refine bX w2 rfl _ _ rfl b6 rfl rfl Q5.out ⟨_,_,_,_,_,_,_,Oe⟩ ?_;intro w3 QY SY;simp only [Act.put];have HG3:=ah ((HG.out.below hW).fE SY.1 (by omega));have HT3:=ah ((HT.out.below hW).fE SY.1 (by omega));have HB3:=ah (aY (bA.out _ hW) SY.1 (by have:=HB.out.size;omega) (by have:=HB.out.size;omega));have HS3:=ah QY;have hz3:w.heap.size+2≤w3.heap.size:=by have:=SY.2.2;omega
    obtain ⟨bS,hbS⟩:∃b,b=b6:=⟨_,rfl⟩;have hbSg:w.heap.size+2≤bS:=by omega
    have hbSl:bS<w3.heap.size:=by have:=HS3.out.any.lt;omega
    rw [←hbS] at HS3 ⊢;clear hbS hW QY SY Oe HG HT HB bA Q5 CC CS hb6 yP hlt1;have bA:=ah (show ∀W,Below w3.heap.size w3 W→Below w.heap.size w W from fun W h=>HB3.out.trans (h.mono HB3.out.size));go_upto_region 4 with fail;refine uf (by kernel_rfl) 14 (by simp) (by kernel_rfl) (by kernel_rfl) (by kernel_rfl) (by kernel_rfl) (Two 11 12) (fun jx vx wx=>match jx with | 0=>vx=(.pointer (some ⟨(w.heap.size+1),0,none⟩)) | 1=>vx=(.pointer (some ⟨(w.heap.size+1),1,none⟩)) | 2=>vx=(.int .i64 low) | 3=>bM wx.heap.size wx (vx) (low) (1) 5 0 | 4=>vx=(.pointer (some ⟨(w.heap.size+1),0,none⟩)) | 5=>vx=(.pointer (some ⟨(w.heap.size+1),2,none⟩)) | 6=>vx=(.int .i64 aD) | 7=>vx=(.pointer (some ⟨(w.heap.size+1),0,none⟩)) | 8=>vx=(.pointer (some ⟨(w.heap.size+1),1,none⟩)) | 9=>vx=(.int .i64 low) | 10=>vx=(.int .i64 (aD-low)) | 11=>bM wx.heap.size wx (vx) (aD-low) (1) 5 0 | 12=>fF w3.heap.size 99 #[.bool false,.slice none 0 0,.slice none 0 0] vx wx | 13=>fF w3.heap.size 99 #[.bool false,.slice none 0 0,.slice none 0 0] vx wx | _=>True) (fun W=>Below w3.heap.size w3 W) (fun wx wy=>Below wx.heap.size wx wy) (by constructor<;>(intro b hb;exact absurd hb (by first | exact rE | (intro hh;cases hh)))) (Below.refl _ _).drew ?_ ?_ ?_ ?_
    ·intro jx vx wx wy h g
     match jx,h with
     | 0,h | 1,h | 2,h | 4,h | 5,h | 6,h | 7,h | 8,h | 9,h | 10,h=>exact h
     | 3,h | 11,h=>exact bM.up h g
     | 12,h | 13,h=>exact fF.up h g
     | jx+14,h=>exact trivial
    ·intro jx ox dx hj ho hd;exact bO (by kernel_rfl) hj ho hd
    ·intro ix ox ax W hi aC hsh hW hJ hpre;have hsz:w3.heap.size≤W.heap.size:=hW.size;have GA:∀ob,Below W.heap.size W (W.alloc ob):=fun ob=>(Below.refl _ _).alloc (Nat.le_refl _) ob;have WA:∀ob,Below w3.heap.size w3 (W.alloc ob):=fun ob=>hW.alloc hsz ob;have t5:ax.tmps[5]?.getD undef=(.pointer (some ⟨(w.heap.size+1),0,none⟩)):=gT (hsh.2.2 5 (aM (by kernel_rfl)));have q1:=(HT3.out.below hW).cell (i:=1) rfl;have q2:=(HT3.out.below hW).cell (i:=2) rfl;clear hsh
     match ix,hi,aC with
     | 0,_,aC=>
      cases aC;exact au (w':=W) (by simp [execOp,Act.eval,t5,go_sem]) ⟨_,rfl,rfl,hW,Below.refl _ _,gI hJ (Below.refl _ _) _ (by decide) (by decide)⟩
     | 1,_,aC=>
      cases aC;have f0:=gT (hpre ⟨0,.data⟩ (by simp) (by rfl) _ _ rfl rfl);exact au (w':=W) (by simp [execOp,Act.eval,f0,go_sem]) ⟨_,rfl,rfl,hW,Below.refl _ _,gI hJ (Below.refl _ _) _ (by decide) (by decide)⟩
     | 2,_,aC=>
      cases aC;have f1:=gT (hpre ⟨1,.data⟩ (by simp) (by rfl) _ _ rfl rfl);exact au (w':=W) (by simp [execOp,Act.eval,q1,f1,go_sem]) ⟨_,rfl,rfl,hW,Below.refl _ _,gI hJ (Below.refl _ _) _ (by decide) (by decide)⟩
     | 3,_,aC=>
      cases aC;have f2:=gT (hpre ⟨2,.data⟩ (by simp) (by rfl) _ _ rfl rfl);refine aG (by simp [execOp,Act.eval,f2,go_sem]) ((gZ (low) 5 W (by omega) (by omega) g5l.out).mono ?_);rintro ex wy ⟨vn,rfl,hq,hb⟩;exact ⟨vn,rfl,_,rfl,hq,hW.trans (hb.mono hsz),hb,gI hJ hb _ (by decide) (by decide)⟩
     | 4,_,aC=>
      cases aC;exact au (w':=W) (by simp [execOp,Act.eval,t5,go_sem]) ⟨_,rfl,rfl,hW,Below.refl _ _,gI hJ (Below.refl _ _) _ (by decide) (by decide)⟩
     | 5,_,aC=>
      cases aC;have f4:=gT (hpre ⟨4,.data⟩ (by simp) (by rfl) _ _ rfl rfl);exact au (w':=W) (by simp [execOp,Act.eval,f4,go_sem]) ⟨_,rfl,rfl,hW,Below.refl _ _,gI hJ (Below.refl _ _) _ (by decide) (by decide)⟩
     | 6,_,aC=>
      cases aC;have f5:=gT (hpre ⟨5,.data⟩ (by simp) (by rfl) _ _ rfl rfl);exact au (w':=W) (by simp [execOp,Act.eval,q2,f5,go_sem]) ⟨_,rfl,rfl,hW,Below.refl _ _,gI hJ (Below.refl _ _) _ (by decide) (by decide)⟩
     | 7,_,aC=>
      cases aC;exact au (w':=W) (by simp [execOp,Act.eval,t5,go_sem]) ⟨_,rfl,rfl,hW,Below.refl _ _,gI hJ (Below.refl _ _) _ (by decide) (by decide)⟩
     | 8,_,aC=>
      cases aC;have f7:=gT (hpre ⟨7,.data⟩ (by simp) (by rfl) _ _ rfl rfl);exact au (w':=W) (by simp [execOp,Act.eval,f7,go_sem]) ⟨_,rfl,rfl,hW,Below.refl _ _,gI hJ (Below.refl _ _) _ (by decide) (by decide)⟩
     | 9,_,aC=>
      cases aC;have f8:=gT (hpre ⟨8,.data⟩ (by simp) (by rfl) _ _ rfl rfl);exact au (w':=W) (by simp [execOp,Act.eval,q1,f8,go_sem]) ⟨_,rfl,rfl,hW,Below.refl _ _,gI hJ (Below.refl _ _) _ (by decide) (by decide)⟩
     | 10,_,aC=>
      cases aC;have f6:=gT (hpre ⟨6,.data⟩ (by simp) (by rfl) _ _ rfl rfl);have f9:=gT (hpre ⟨9,.data⟩ (by simp) (by rfl) _ _ rfl rfl);exact au (w':=W) (by simp [execOp,Act.eval,ahl,f6,f9,go_sem]) ⟨_,rfl,rfl,hW,Below.refl _ _,gI hJ (Below.refl _ _) _ (by decide) (by decide)⟩
     | 11,_,aC=>
      cases aC;have f10:=gT (hpre ⟨10,.data⟩ (by simp) (by rfl) _ _ rfl rfl);refine aG (by simp [execOp,Act.eval,f10,go_sem]) ((gZ (aD-low) 5 W (by omega) (by omega) g5h.out).mono ?_);rintro ex wy ⟨vn,rfl,hq,hb⟩;exact ⟨vn,rfl,_,rfl,hq,hW.trans (hb.mono hsz),hb,gI hJ hb _ (by decide) (by decide)⟩
     | 12,_,aC=>
      cases aC;exact au (v:=.pointer (some ⟨W.heap.size,0,none⟩)) (w':=W.alloc (.cells #[.bool false,.slice none 0 0,.slice none 0 0] 99)) (by simp [execOp,Act.eval,jo,go_sem]) ⟨_,rfl,fF.new _ _ hsz,WA _,GA _,Ke hJ _ (by decide)⟩
     | 13,_,aC=>
      cases aC;exact au (v:=.pointer (some ⟨W.heap.size,0,none⟩)) (w':=W.alloc (.cells #[.bool false,.slice none 0 0,.slice none 0 0] 99)) (by simp [execOp,Act.eval,jo,go_sem]) ⟨_,rfl,fF.new _ _ hsz,WA _,GA _,Kc hJ _ (by decide)⟩
     | ix+14,hi,_=>exact absurd hi (by omega)
    ·intro ax w4 hsh hW hJ hφ;have e0:=hφ 0 _ _ (by omega) rfl rfl;have e1:=hφ 1 _ _ (by omega) rfl rfl;have e2:=hφ 2 _ _ (by omega) rfl rfl;have q3:bM w4.heap.size w4 (ax.tmps.getD 48 undef) (low) (1) 5 0:=hφ 3 _ _ (by omega) rfl rfl;obtain ⟨v3,e3⟩:∃v,ax.tmps.getD 48 undef=v:=⟨_,rfl⟩;rw [e3] at q3;have Q3:=ah q3;clear q3;have e4:=hφ 4 _ _ (by omega) rfl rfl;have e5:=hφ 5 _ _ (by omega) rfl rfl;have e6:=hφ 6 _ _ (by omega) rfl rfl;have e7:=hφ 7 _ _ (by omega) rfl rfl;have e8:=hφ 8 _ _ (by omega) rfl rfl;have e9:=hφ 9 _ _ (by omega) rfl rfl;have e10:=hφ 10 _ _ (by omega) rfl rfl;have l7:bM w4.heap.size w4 (ax.tmps.getD 56 undef) (aD-low) (1) 5 0:=hφ 11 _ _ (by omega) rfl rfl;obtain ⟨v11,e11⟩:∃v,ax.tmps.getD 56 undef=v:=⟨_,rfl⟩;rw [e11] at l7;have RD:=ah l7;clear l7;obtain ⟨b12,e12,QH,hl12⟩:=hφ 12 _ _ (by omega) rfl rfl;obtain ⟨b13,e13,Ji,QA⟩:=hφ 13 _ _ (by omega) rfl rfl
     have hne2:b12≠b13:=by
      intro hh;subst hh;exact (hJ.1 _ e12).2 e13
     clear hJ;rw [bf hsh [(45,_),(46,_),(47,_),(48,_),(49,_),(50,_),(51,_),(52,_),(53,_),(54,_),(55,_),(56,_),(11,_),(12,_)] [45,46,47,48,49,50,51,52,53,54,55,56,11,12] rfl (by kernel_rfl) ⟨e0,e1,e2,e3,e4,e5,e6,e7,e8,e9,e10,e11,e12,e13,trivial⟩];clear hφ hsh e0 e1 e2 e3 e4 e5 e6 e7 e8 e9 e10 e11 e12 e13;simp only [cB,List.foldl_cons,List.foldl_nil,List.drop_succ_cons,List.drop_zero,Act.put,List.setIfInBounds_toArray,List.set_cons_succ,List.set_cons_zero];have yP:=hW.size;have hA13:AnyQ w4 b13:=⟨_,_,_,_,_,_,_,QA⟩;refine bX w4 rfl _ _ rfl b12 rfl rfl Q3.out ⟨_,_,_,_,_,_,_,hl12⟩ ?_;intro w5 QY SY;simp only [Act.put];have HG5:=ah ((HG3.out.below hW).fE SY.1 (by omega));have HT5:=ah ((HT3.out.below hW).fE SY.1 (by omega));have nU:=ah (aY (bA.out _ hW) SY.1 (by omega) (by omega));have HS5:=ah ((HS3.out.below hW).wM SY (by omega));have HL5:=ah QY;have hA5:=hA13.wM SY (Ne.symm hne2);have hz5:=SY.2.2;have Q11b:=ah (SY.2.1 _ _ _ _ _ _ RD.out);clear QY SY hA13;rw [←hz5] at Q11b;refine bX w5 rfl _ _ rfl b13 rfl rfl Q11b.out hA5 ?_;intro w6 QY SY;simp only [Act.put];have C0:=ah (HG5.out.fE SY.1 (by omega));have C1:=ah (HT5.out.fE SY.1 (by omega));have C2:=ah (HS5.out.wM SY (by omega));have C3:=ah (HL5.out.wM SY hne2);have C4:=ah QY;have CB:=ah (aY nU.out SY.1 (by omega) (by omega));have hz6:w.heap.size+2≤w6.heap.size:=by have:=SY.2.2;omega
     obtain ⟨bL,hbL⟩:∃b,b=b12:=⟨_,rfl⟩;rw [←hbL] at C3 ⊢;obtain ⟨bH,hbH⟩:∃b,b=b13:=⟨_,rfl⟩;rw [←hbH] at C4 ⊢;clear hbL hbH hW QY SY hA5 hne2 hl12 QA HG3 HT3 HB3 HS3 HG5 HT5 nU HS5 HL5 Q3 RD Q11b bA QH Ji hz5 yP hbSg hbSl hz3;have q9:=C1.out.cell (i:=9) rfl;have ql:=C1.out.lt;go_wp2_with fail;clear q9 ql;go_loopw [13,60] (fun ov i wx=>∃(k:Nat) (o:Value),k≤aO.length∧i=.int .i64 k∧o=ov∧Hid (cu w6.heap.size wx o (SL.take k))∧Hid (Below w6.heap.size w6 wx)) (fun _ i _=>aO.length-(intOf i).toNat)
     case atStart=>exact ⟨0,_,Nat.zero_le _,rfl,rfl,ah (by simpa using cu.nil _ _),ah (Below.refl _ _)⟩
     case round=>
      obtain ⟨k,ov,hk,rfl,rfl,HOV,HB⟩:=hrel;by_cases hlt:k<aO.length
      ·obtain ⟨b,off,rfl,hbb,hc⟩:=HK.out k hlt;obtain ⟨d0,d1⟩:=hc wr (CB.out.trans (HB.out.mono (by omega)));have Oc:=HB.out.size;have hbr:b<wr.heap.size:=by omega
       have HLK:=ah (HLV.out _ (List.getElem_mem hlt));have HPX:=ah (HPF.out aO[k].1 aO[k].2 (List.getElem_mem hlt));have xR:=ah ((um.out k hlt).trans (show _=SL.take k++[⟨aO[k].1,aO[k].2,tT rel low aD (nO (aO[k].1,aO[k].2)) (KI k) (sn,sd)⟩] by rw [←HSO2.out k aO[k].1 aO[k].2]));have HLM:=ah (show (SL.take k).length≤10000000 by simp;omega);have HWX:=ah (HWK.out k hlt);have CX:=ah (fun W=>CW.out k W hlt);have HLY:=ah (HLE.out aO[k].1 aO[k].2);have HLZ:=ah (HLI.out aO[k].1 aO[k].2);clear hc;generalize kC:aO[k]=rk at *;clear kC;obtain ⟨ku,ks⟩:=rk;simp only at *;obtain ⟨L2,hL2⟩:∃l,SL.take (k+1)=l:=⟨_,rfl⟩;rw [hL2] at xR;have HL2:=ah hL2;clear hL2;generalize SL.take k=L1 at *;generalize hkw:KI k=wx at *;clear hkw;obtain ⟨wn,wd⟩:=wx;generalize nO (ku,ks)=bl at *;simp only at CX;obtain ⟨mv,hmv⟩:∃v,tT rel low aD bl (wn,wd) (sn,sd)=v:=⟨_,rfl⟩;rw [hmv] at xR;have HMV:=ah hmv;clear hmv
       have g5b:=ah (show bl.natAbs≤10 ^ 5 from by
        have h:=HLK.out;have:bl.natAbs≤100000:=by omega
        exact this)
       obtain ⟨kb,hkb⟩:∃n,wr.heap.size=n:=⟨_,rfl⟩;have KX1:=ah (show aH (wr.alloc (.cells #[.int .i64 ku,.string ks] 40)) kb 40 #[.int .i64 ku,.string ks] from hkb▸aH.new wr _ _);have HR1:=ah (show Below wr.heap.size wr (wr.alloc (.cells #[.int .i64 ku,.string ks] 40)) from (Below.refl _ _).alloc (Nat.le_refl _) _);have kr:=ah (show ∀W,Below wr.heap.size wr W→Below w6.heap.size w6 W from fun W h=>HB.out.trans (h.mono HB.out.size));have qQ:=ah (show ∀W,Below wr.heap.size wr W→Below w.heap.size w W from fun W h=>CB.out.trans ((kr.out W h).mono (by omega)));go_upto_region 9 with fail;clear d0 d1 HB;generalize Qn:wr.alloc (.cells #[.int .i64 ku,.string ks] 40)=wa at *;clear Qn;have x0:=KX1.out.cell (i:=0) rfl;have x1:=KX1.out.cell (i:=1) rfl;have y0:=(C0.out.below (kr.out _ HR1.out)).cell (i:=0) rfl;have y1:=(C0.out.below (kr.out _ HR1.out)).cell (i:=1) rfl;have yl:=(C0.out.below (kr.out _ HR1.out)).lt;have xl:=KX1.out.lt;go_wp2_with fail;refine (HPX.out _ (qQ.out _ HR1.out)).mono ?_;rintro e w7 ⟨xv,rfl,hp,hb⟩
       have hdf:∃qn qg qs qf qb qo ql qc,xv=.agg #[.string qn,.int .i64 qg,.int .i64 qs,.int .i64 qf,.int .i64 (((gL r ku ks.data.toList).map jy.dflt).getD 0),.bool qb,.slice qo ql qc]:=by
        cases hfo:gL r ku ks.data.toList with
        | none=>
         rw [hfo] at hp;exact ⟨_,_,_,_,_,_,_,_,hp⟩
        | some p=>
         rw [hfo] at hp;obtain ⟨pv,rfl,hpp⟩:=hp;obtain ⟨ao,cap,rfl⟩:=qj hpp;exact ⟨_,_,_,_,_,_,_,_,rfl⟩
       obtain ⟨qn,qg,qs,qf,qb,qo,ql,qc,rfl⟩:=hdf;generalize ((gL r ku ks.data.toList).map jy.dflt).getD 0=df at *;have KX2:=ah ((KX1.out.below hb).alloc (.cells #[.string qn,.int .i64 qg,.int .i64 qs,.int .i64 qf,.int .i64 df,.bool qb,.slice qo ql qc] 81));have HR2:=ah ((HR1.out.trans (hb.mono HR1.out.size)).alloc (Nat.le_trans HR1.out.size hb.size) (.cells #[.string qn,.int .i64 qg,.int .i64 qs,.int .i64 qf,.int .i64 df,.bool qb,.slice qo ql qc] 81));have PX2:=ah (aH.new w7 #[.string qn,.int .i64 qg,.int .i64 qs,.int .i64 qf,.int .i64 df,.bool qb,.slice qo ql qc] 81);clear hp hb KX1 HR1 HPX x0 x1 y0 y1 yl xl;generalize (gL r ku ks.data.toList).isSome=fb at *;go_upto_region 10 with fail;generalize w7.alloc (.cells #[.string qn,.int .i64 qg,.int .i64 qs,.int .i64 qf,.int .i64 df,.bool qb,.slice qo ql qc] 81)=w8 at *;have x0:=KX2.out.cell (i:=0) rfl;have x1:=KX2.out.cell (i:=1) rfl;have y4:=PX2.out.cell (i:=4) rfl;have xl:=KX2.out.lt;have yl:=PX2.out.lt;go_wp2_with fail;refine (HLZ.out df _ (qQ.out _ HR2.out)).mono ?_;rintro e w9 ⟨rfl,hb⟩;rw [HLY.out];have KX3:=ah (KX2.out.below hb);have HR3:=ah (HR2.out.trans (hb.mono HR2.out.size));clear hb KX2 HR2 PX2 x0 x1 y4 xl yl HLZ;go_wp2_with fail;refine (gZ bl 5 _ (by have:=HLK.out;omega) (by have:=HLK.out;omega) g5b.out).mono ?_;rintro e w10 ⟨v10,rfl,hq,hb⟩;obtain ⟨zs,za,zL,zc,zb,zM,zd,rfl⟩:=fB hq;obtain ⟨b18,MZ⟩:∃n,w10.heap.size=n:=⟨_,rfl⟩;have KX4:=ah ((KX3.out.below hb).alloc (.cells #[.bool zs,.slice za zL zc,.slice zb zM zd] 99));have HR4:=ah ((HR3.out.trans (hb.mono HR3.out.size)).alloc (Nat.le_trans HR3.out.size hb.size) (.cells #[.bool zs,.slice za zL zc,.slice zb zM zd] 99));have VX4:=ah (show gY (w10.alloc (.cells #[.bool zs,.slice za zL zc,.slice zb zM zd] 99)) b18 bl 1 5 0 from ⟨_,_,_,_,_,_,_,MZ▸aH.new w10 _ _,hq.up ((Below.refl _ _).alloc (Nat.le_refl _) _)⟩);have hg18:wr.heap.size≤b18:=by rw [←MZ];exact Nat.le_trans HR3.out.size hb.size
       have hn18:kb<b18:=by rw [←MZ];exact (KX3.out.below hb).lt
       clear hq hb KX3 HR3;go_upto_region 11 with fail;clear MZ;generalize w10.alloc (.cells #[.bool zs,.slice za zL zc,.slice zb zM zd] 99)=Oa at *;have dI:=ah (show ∀W,Below Oa.heap.size Oa W→Below wr.heap.size wr W from fun W h=>HR4.out.trans (h.mono HR4.out.size));have lM:=ah (show ∀W,Below Oa.heap.size Oa W→Below w6.heap.size w6 W from fun W h=>kr.out W (dI.out W h));have bA:=ah (show ∀W,Below Oa.heap.size Oa W→Below w.heap.size w W from fun W h=>qQ.out W (dI.out W h));refine aX (by kernel_rfl) 13 (by simp) (by kernel_rfl) (by kernel_rfl) (by kernel_rfl) (by kernel_rfl) (fun jx vx wx=>match jx with | 0=>bM wx.heap.size wx (vx) (low) (1) 5 0 | 1=>bM wx.heap.size wx (vx) (aD-low) (1) 5 0 | 2=>vx=(.pointer (some ⟨(w.heap.size+1),0,none⟩)) | 3=>vx=(.agg #[.int .i64 aK,.int .i64 low,.int .i64 aD,.int .i64 aA,.int .i64 ay,.int .i64 ak,.bool aI,.bool rel,.slice so st.length cO]) | 4=>vx=(.int .i64 k) | 5=>vx=(.pointer (some ⟨(w.heap.size+1),9,none⟩)) | 6=>vx=(.slice (some ⟨b,off,none⟩) aO.length dG) | 7=>vx=(.int .i64 aO.length) | 8=>vx=(.int .i64 ck) | 9=>J6 wx (vx) (wn) (wd) 130 130 | 10=>J6 wx (vx) ((aD-low)*wn) (wd) 135 130 | 11=>J6 wx (vx) (low*wd+(aD-low)*wn) (wd) 136 130 | 12=>fF Oa.heap.size 99 #[.bool false,.slice none 0 0,.slice none 0 0] vx wx | _=>True) (fun W=>Below Oa.heap.size Oa W) (fun wx wy=>Below wx.heap.size wx wy) (Below.refl _ _).drew ?_ ?_ ?_ ?_
       ·intro jx vx wx wy h g
        match jx,h with
        | 0,h | 1,h=>exact bM.up h g
        | 2,h | 3,h | 4,h | 5,h | 6,h | 7,h | 8,h=>exact h
        | 9,h | 10,h | 11,h=>exact J6.up h g
        | 12,h=>exact fF.up h g
        | jx+13,h=>exact trivial
       ·intro jx ox dx hj ho hd;exact bO (by kernel_rfl) hj ho hd
       ·intro ix ox ax W hi aC hsh hW hpre;have hsz:Oa.heap.size≤W.heap.size:=hW.size;have GA:∀ob,Below W.heap.size W (W.alloc ob):=fun ob=>(Below.refl _ _).alloc (Nat.le_refl _) ob;have WA:∀ob,Below Oa.heap.size Oa (W.alloc ob):=fun ob=>hW.alloc hsz ob;have t5:ax.tmps[5]?.getD undef=(.pointer (some ⟨(w.heap.size+1),0,none⟩)):=gT (hsh.2.2 5 (aM (by kernel_rfl)));have t9:ax.tmps[9]?.getD undef=(.int .i64 ck):=gT (hsh.2.2 9 (aM (by kernel_rfl)));have t11:ax.tmps[11]?.getD undef=(.pointer (some ⟨bL,0,none⟩)):=gT (hsh.2.2 11 (aM (by kernel_rfl)));have t12:ax.tmps[12]?.getD undef=(.pointer (some ⟨bH,0,none⟩)):=gT (hsh.2.2 12 (aM (by kernel_rfl)));have O5:ax.tmps[14]?.getD undef=(.int .i64 k):=gT (hsh.2.2 14 (aM (by kernel_rfl)));obtain ⟨LK,NQ,NU,NC,NI,NS,Nv,gJ,jC⟩:=(C3.out.below (lM.out W hW));obtain ⟨AR,AQ,AP⟩:=pG gJ;obtain ⟨s_y,a_y,L_y,c_y,b_y,M_y,d_y,zm,Bb⟩:=(C4.out.below (lM.out W hW));obtain ⟨xy0,xy1,xy2⟩:=pG zm;have q0:=(C1.out.below (lM.out W hW)).cell (i:=0) rfl;have q1:=(C1.out.below (lM.out W hW)).cell (i:=1) rfl;have q2:=(C1.out.below (lM.out W hW)).cell (i:=2) rfl;have q3:=(C1.out.below (lM.out W hW)).cell (i:=3) rfl;have q4:=(C1.out.below (lM.out W hW)).cell (i:=4) rfl;have q5:=(C1.out.below (lM.out W hW)).cell (i:=5) rfl;have q6:=(C1.out.below (lM.out W hW)).cell (i:=6) rfl;have q7:=(C1.out.below (lM.out W hW)).cell (i:=7) rfl;have q8:=(C1.out.below (lM.out W hW)).cell (i:=8) rfl;have q9:=(C1.out.below (lM.out W hW)).cell (i:=9) rfl;clear hsh
        match ix,hi,aC with
        | 0,_,aC=>
         cases aC;exact au (w':=W) (by simp [execOp,Act.eval,t11,AR,AQ,AP,go_sem]) ⟨_,rfl,jC,hW,Below.refl _ _⟩
        | 1,_,aC=>
         cases aC;exact au (w':=W) (by simp [execOp,Act.eval,t12,xy0,xy1,xy2,go_sem]) ⟨_,rfl,Bb,hW,Below.refl _ _⟩
        | 2,_,aC=>
         cases aC;exact au (w':=W) (by simp [execOp,Act.eval,t5,go_sem]) (aS hW)
        | 3,_,aC=>
         cases aC;have f2:=gT (hpre ⟨2,.data⟩ (by simp) (by rfl) _ _ rfl rfl);exact au (w':=W) (by simp [execOp,Act.eval,q0,q1,q2,q3,q4,q5,q6,q7,q8,f2,go_sem]) (aS hW)
        | 4,_,aC=>
         cases aC;exact au (w':=W) (by simp [execOp,Act.eval,O5,go_sem]) (aS hW)
        | 5,_,aC=>
         cases aC;exact au (w':=W) (by simp [execOp,Act.eval,t5,go_sem]) (aS hW)
        | 6,_,aC=>
         cases aC;have f5:=gT (hpre ⟨5,.data⟩ (by simp) (by rfl) _ _ rfl rfl);exact au (w':=W) (by simp [execOp,Act.eval,q9,f5,go_sem]) (aS hW)
        | 7,_,aC=>
         cases aC;have f6:=gT (hpre ⟨6,.data⟩ (by simp) (by rfl) _ _ rfl rfl);exact au (w':=W) (by simp [execOp,Act.eval,f6,go_sem]) (aS hW)
        | 8,_,aC=>
         cases aC;exact au (w':=W) (by simp [execOp,Act.eval,t9,go_sem]) (aS hW)
        | 9,_,aC=>
         cases aC;have f3:=gT (hpre ⟨3,.data⟩ (by simp) (by rfl) _ _ rfl rfl);have f4:=gT (hpre ⟨4,.data⟩ (by simp) (by rfl) _ _ rfl rfl);have f7:=gT (hpre ⟨7,.data⟩ (by simp) (by rfl) _ _ rfl rfl);have f8:=gT (hpre ⟨8,.data⟩ (by simp) (by rfl) _ _ rfl rfl);refine aG (by simp [execOp,Act.eval,f3,f4,f7,f8,go_sem]) ((CX.out W (bA.out W hW)).mono ?_);rintro ex wy ⟨vn,rfl,hq,hb⟩;exact ⟨vn,rfl,_,rfl,hq,hW.trans (hb.mono hsz),hb⟩
        | 10,_,aC=>
         cases aC;obtain ⟨v1,f1,r1⟩:=gR (fun v=>bM W.heap.size W v (aD-low) (1) 5 0) (hpre ⟨1,.data⟩ (by simp) (by rfl) _ _ rfl rfl);obtain ⟨v9,f9,r9⟩:=gR (fun v=>J6 W v (wn) (wd) 130 130) (hpre ⟨9,.data⟩ (by simp) (by rfl) _ _ rfl rfl);refine aG (by simp [execOp,Act.eval,f1,f9,go_sem]) ((timesX W r1 r9).mono ?_);rintro ex wy ⟨vn,rfl,hq,hb⟩;exact ⟨vn,rfl,_,rfl,hq,hW.trans (hb.mono hsz),hb⟩
        | 11,_,aC=>
         cases aC;obtain ⟨v0,f0,r0⟩:=gR (fun v=>bM W.heap.size W v (low) (1) 5 0) (hpre ⟨0,.data⟩ (by simp) (by rfl) _ _ rfl rfl);obtain ⟨v10,f10,r10⟩:=gR (fun v=>J6 W v ((aD-low)*wn) (wd) 135 130) (hpre ⟨10,.data⟩ (by simp) (by rfl) _ _ rfl rfl);refine aG (by simp [execOp,Act.eval,f0,f10,go_sem]) ((plusX W r0 r10).mono ?_);rintro ex wy ⟨vn,rfl,hq,hb⟩;exact ⟨vn,rfl,_,rfl,hq,hW.trans (hb.mono hsz),hb⟩
        | 12,_,aC=>
         cases aC;exact au (v:=.pointer (some ⟨W.heap.size,0,none⟩)) (w':=W.alloc (.cells #[.bool false,.slice none 0 0,.slice none 0 0] 99)) (by simp [execOp,Act.eval,jo,go_sem]) ⟨_,rfl,fF.new _ _ hsz,WA _,GA _⟩
        | ix+13,hi,_=>exact absurd hi (by omega)
       ·intro ax w12 hsh hW hφ;have q0:bM w12.heap.size w12 (ax.tmps.getD 77 undef) (low) (1) 5 0:=hφ 0 _ _ (by omega) rfl rfl;obtain ⟨v0,e0⟩:∃v,ax.tmps.getD 77 undef=v:=⟨_,rfl⟩;rw [e0] at q0;have Q0:=ah q0;clear q0;have q1:bM w12.heap.size w12 (ax.tmps.getD 78 undef) (aD-low) (1) 5 0:=hφ 1 _ _ (by omega) rfl rfl;obtain ⟨v1,e1⟩:∃v,ax.tmps.getD 78 undef=v:=⟨_,rfl⟩;rw [e1] at q1;have Q1:=ah q1;clear q1;have e2:=hφ 2 _ _ (by omega) rfl rfl;have e3:=hφ 3 _ _ (by omega) rfl rfl;have e4:=hφ 4 _ _ (by omega) rfl rfl;have e5:=hφ 5 _ _ (by omega) rfl rfl;have e6:=hφ 6 _ _ (by omega) rfl rfl;have e7:=hφ 7 _ _ (by omega) rfl rfl;have e8:=hφ 8 _ _ (by omega) rfl rfl;have q9:J6 w12 (ax.tmps.getD 86 undef) (wn) (wd) 130 130:=hφ 9 _ _ (by omega) rfl rfl;obtain ⟨v9,e9⟩:∃v,ax.tmps.getD 86 undef=v:=⟨_,rfl⟩;rw [e9] at q9;have Q9:=ah q9;clear q9;have kS:J6 w12 (ax.tmps.getD 87 undef) ((aD-low)*wn) (wd) 135 130:=hφ 10 _ _ (by omega) rfl rfl;obtain ⟨v10,e10⟩:∃v,ax.tmps.getD 87 undef=v:=⟨_,rfl⟩;rw [e10] at kS;have Q10:=ah kS;clear kS;have l7:J6 w12 (ax.tmps.getD 88 undef) (low*wd+(aD-low)*wn) (wd) 136 130:=hφ 11 _ _ (by omega) rfl rfl;obtain ⟨v11,e11⟩:∃v,ax.tmps.getD 88 undef=v:=⟨_,rfl⟩;rw [e11] at l7;have RD:=ah l7;clear l7;obtain ⟨b12,e12,QH,hl12⟩:=hφ 12 _ _ (by omega) rfl rfl;rw [bf hsh [(77,_),(78,_),(79,_),(80,_),(81,_),(82,_),(83,_),(84,_),(85,_),(86,_),(87,_),(88,_),(19,_)] [77,78,79,80,81,82,83,84,85,86,87,88,19] rfl (by kernel_rfl) ⟨e0,e1,e2,e3,e4,e5,e6,e7,e8,e9,e10,e11,e12,trivial⟩];clear hφ hsh e0 e1 e2 e3 e4 e5 e6 e7 e8 e9 e10 e11 e12;simp only [cB,List.foldl_cons,List.foldl_nil,List.drop_succ_cons,List.drop_zero,Act.put,List.setIfInBounds_toArray,List.set_cons_succ,List.set_cons_zero];have yP:=hW.size;have hl18:=VX4.out.any.lt;have hlk:=KX4.out.lt;have hzr4:=HR4.out.size;obtain ⟨V0,D0,hq11,hD0,hV0⟩:=RD.out;refine bX w12 rfl _ _ rfl b12 rfl rfl hq11 ⟨_,_,_,_,_,_,_,hl12⟩ ?_;intro w13 QY SY;simp only [Act.put];have KX5:=ah ((KX4.out.below hW).fE SY.1 (by omega));have HR5:=ah (aY (dI.out _ hW) SY.1 (by omega) (by omega));have VX5:=ah ((VX4.out.below hW).wM SY (by omega));have WX5:=ah QY;obtain ⟨b19,hb19⟩:∃b,b=b12:=⟨_,rfl⟩;rw [←hb19] at WX5 ⊢;have hg19:wr.heap.size≤b19:=by omega
        have hn19:kb≠b19∧b18≠b19:=by omega
        clear hb19 hW QY SY hl12 hq11 Q0 Q1 Q9 Q10 RD KX4 HR4 VX4 dI lM bA CX QH yP hl18 hlk hzr4;have pR:=ah (And.intro hD0 hV0);clear hD0 hV0;have q7:=(C1.out.below (kr.out _ HR5.out)).cell (i:=7) rfl;have ql:=(C1.out.below (kr.out _ HR5.out)).lt;go_upto_if 91 with fail;clear q7 ql;go_cut [] (fun wx=>Hid (Below wr.heap.size wr wx)∧Hid (aH wx kb 40 #[.int .i64 ku,.string ks])∧Hid (gY wx b18 bl 1 5 0)∧Hid (∃V Dv,gY wx b19 V Dv 139 131∧0<Dv∧V*(2*wd)=Dk rel low aD bl wn wd*(Dv:Int)))
        case first=>
         cases rel
         ·have HY:=ah (show ∃V Dv,gY w13 b19 V Dv 139 131∧0<Dv∧V*(2*wd)=Dk false low aD bl wn wd*(Dv:Int) by
           obtain ⟨s,ao,L,cap,bo,M,cap2,h1,h2⟩:=WX5.out;exact ⟨V0,D0,⟨s,ao,L,cap,bo,M,cap2,h1,bM.wider h2 (by omega) (by omega)⟩,pR.out.1,abs_rel bl pR.out.2⟩)
          go_wp2_with fail;go_meet;exact ⟨HR5,KX5,VX5,HY⟩
         ·have dI:=ah (show ∀W,Below w13.heap.size w13 W→Below wr.heap.size wr W from fun W h=>HR5.out.trans (h.mono HR5.out.size));have lM:=ah (show ∀W,Below w13.heap.size w13 W→Below w6.heap.size w6 W from fun W h=>kr.out W (dI.out W h));go_upto_region 13 with fail;refine aX (by kernel_rfl) 12 (by simp) (by kernel_rfl) (by kernel_rfl) (by kernel_rfl) (by kernel_rfl) (fun jx vx wx=>match jx with | 0=>bM wx.heap.size wx (vx) (V0) (D0) 136 130 | 1=>vx=(.pointer (some ⟨(w.heap.size+1),0,none⟩)) | 2=>vx=(.pointer (some ⟨(w.heap.size+1),1,none⟩)) | 3=>vx=(.int .i64 low) | 4=>vx=(.pointer (some ⟨(w.heap.size+1),0,none⟩)) | 5=>vx=(.pointer (some ⟨(w.heap.size+1),2,none⟩)) | 6=>vx=(.int .i64 aD) | 7=>vx=(.int .i64 (low+aD)) | 8=>bM wx.heap.size wx (vx) (low+aD) (2) 6 1 | 9=>bM wx.heap.size wx (vx) (V0*((2:Nat):Int)-(low+aD)*(D0:Int)) (D0*2) 138 131 | 10=>bM wx.heap.size wx (vx) (bl) (1) 5 0 | 11=>bM wx.heap.size wx (vx) ((V0*((2:Nat):Int)-(low+aD)*(D0:Int))*((1:Nat):Int)+bl*((D0*2:Nat):Int)) (D0*2*1) 139 131 | _=>True) (fun W=>Below w13.heap.size w13 W) (fun wx wy=>Below wx.heap.size wx wy) (Below.refl _ _).drew ?_ ?_ ?_ ?_
          ·intro jx vx wx wy h g
           match jx,h with
           | 0,h | 8,h | 9,h | 10,h | 11,h=>exact bM.up h g
           | 1,h | 2,h | 3,h | 4,h | 5,h | 6,h | 7,h=>exact h
           | jx+12,h=>exact trivial
          ·intro jx ox dx hj ho hd;exact bO (by kernel_rfl) hj ho hd
          ·intro ix ox ax W hi aC hsh hW hpre;have hsz:w13.heap.size≤W.heap.size:=hW.size;have GA:∀ob,Below W.heap.size W (W.alloc ob):=fun ob=>(Below.refl _ _).alloc (Nat.le_refl _) ob;have WA:∀ob,Below w13.heap.size w13 (W.alloc ob):=fun ob=>hW.alloc hsz ob;have t5:ax.tmps[5]?.getD undef=(.pointer (some ⟨(w.heap.size+1),0,none⟩)):=gT (hsh.2.2 5 (aM (by kernel_rfl)));have t18:ax.tmps[18]?.getD undef=(.pointer (some ⟨b18,0,none⟩)):=gT (hsh.2.2 18 (aM (by kernel_rfl)));have t19:ax.tmps[19]?.getD undef=(.pointer (some ⟨b19,0,none⟩)):=gT (hsh.2.2 19 (aM (by kernel_rfl)));obtain ⟨LK,NQ,NU,NC,NI,NS,Nv,gJ,jC⟩:=(WX5.out.below hW);obtain ⟨AR,AQ,AP⟩:=pG gJ;obtain ⟨s_y,a_y,L_y,c_y,b_y,M_y,d_y,zm,Bb⟩:=(VX5.out.below hW);obtain ⟨xy0,xy1,xy2⟩:=pG zm;have q1:=(C1.out.below (lM.out W hW)).cell (i:=1) rfl;have q2:=(C1.out.below (lM.out W hW)).cell (i:=2) rfl;clear hsh
           match ix,hi,aC with
           | 0,_,aC=>
            cases aC;exact au (w':=W) (by simp [execOp,Act.eval,t19,AR,AQ,AP,go_sem]) ⟨_,rfl,jC,hW,Below.refl _ _⟩
           | 1,_,aC=>
            cases aC;exact au (w':=W) (by simp [execOp,Act.eval,t5,go_sem]) (aS hW)
           | 2,_,aC=>
            cases aC;have f1:=gT (hpre ⟨1,.data⟩ (by simp) (by rfl) _ _ rfl rfl);exact au (w':=W) (by simp [execOp,Act.eval,f1,go_sem]) (aS hW)
           | 3,_,aC=>
            cases aC;have f2:=gT (hpre ⟨2,.data⟩ (by simp) (by rfl) _ _ rfl rfl);exact au (w':=W) (by simp [execOp,Act.eval,q1,f2,go_sem]) (aS hW)
           | 4,_,aC=>
            cases aC;exact au (w':=W) (by simp [execOp,Act.eval,t5,go_sem]) (aS hW)
           | 5,_,aC=>
            cases aC;have f4:=gT (hpre ⟨4,.data⟩ (by simp) (by rfl) _ _ rfl rfl);exact au (w':=W) (by simp [execOp,Act.eval,f4,go_sem]) (aS hW)
           | 6,_,aC=>
            cases aC;have f5:=gT (hpre ⟨5,.data⟩ (by simp) (by rfl) _ _ rfl rfl);exact au (w':=W) (by simp [execOp,Act.eval,q2,f5,go_sem]) (aS hW)
           | 7,_,aC=>
            cases aC;have f3:=gT (hpre ⟨3,.data⟩ (by simp) (by rfl) _ _ rfl rfl);have f6:=gT (hpre ⟨6,.data⟩ (by simp) (by rfl) _ _ rfl rfl);exact au (w':=W) (by simp [execOp,Act.eval,alh,f3,f6,go_sem]) (aS hW)
           | 8,_,aC=>
            cases aC;have f7:=gT (hpre ⟨7,.data⟩ (by simp) (by rfl) _ _ rfl rfl);refine aG (by simp [execOp,Act.eval,f7,go_sem]) (((BZ (low+aD) 2 6 1 W (by omega) (by omega) (by omega) (by omega) g6.out (by decide)).mono (fun _ _ h=>eX h rfl rfl)).mono ?_);rintro ex wy ⟨vn,rfl,hq,hb⟩;exact ⟨vn,rfl,_,rfl,hq,hW.trans (hb.mono hsz),hb⟩
           | 9,_,aC=>
            cases aC;obtain ⟨v0,f0,r0⟩:=gR (fun v=>bM W.heap.size W v (V0) (D0) 136 130) (hpre ⟨0,.data⟩ (by simp) (by rfl) _ _ rfl rfl);obtain ⟨v8,f8,r8⟩:=gR (fun v=>bM W.heap.size W v (low+aD) (2) 6 1) (hpre ⟨8,.data⟩ (by simp) (by rfl) _ _ rfl rfl);refine aG (by simp [execOp,Act.eval,f0,f8,go_sem]) ((qA W.heap.size _ _ 136 130 6 1 138 _ _ _ _ W (Nat.le_refl _) (by omega) (by omega) (by omega) (by omega) r0 r8).mono ?_);rintro ex wy ⟨vn,rfl,hq,hb⟩;exact ⟨vn,rfl,_,rfl,hq,hW.trans (hb.mono hsz),hb⟩
           | 10,_,aC=>
            cases aC;exact au (w':=W) (by simp [execOp,Act.eval,t18,xy0,xy1,xy2,go_sem]) ⟨_,rfl,Bb,hW,Below.refl _ _⟩
           | 11,_,aC=>
            cases aC;obtain ⟨v9,f9,r9⟩:=gR (fun v=>bM W.heap.size W v (V0*((2:Nat):Int)-(low+aD)*(D0:Int)) (D0*2) 138 131) (hpre ⟨9,.data⟩ (by simp) (by rfl) _ _ rfl rfl);obtain ⟨v10,f10,r10⟩:=gR (fun v=>bM W.heap.size W v (bl) (1) 5 0) (hpre ⟨10,.data⟩ (by simp) (by rfl) _ _ rfl rfl);refine aG (by simp [execOp,Act.eval,f9,f10,go_sem]) ((BR W.heap.size _ _ 138 131 5 0 139 _ _ _ _ W (Nat.le_refl _) (by omega) (by omega) (by omega) (by omega) r9 r10).mono ?_);rintro ex wy ⟨vn,rfl,hq,hb⟩;exact ⟨vn,rfl,_,rfl,hq,hW.trans (hb.mono hsz),hb⟩
           | ix+12,hi,_=>exact absurd hi (by omega)
          ·intro ax OO hsh hW hφ;have q0:bM OO.heap.size OO (ax.tmps.getD 92 undef) (V0) (D0) 136 130:=hφ 0 _ _ (by omega) rfl rfl;obtain ⟨v0,e0⟩:∃v,ax.tmps.getD 92 undef=v:=⟨_,rfl⟩;rw [e0] at q0;have Q0:=ah q0;clear q0;have e1:=hφ 1 _ _ (by omega) rfl rfl;have e2:=hφ 2 _ _ (by omega) rfl rfl;have e3:=hφ 3 _ _ (by omega) rfl rfl;have e4:=hφ 4 _ _ (by omega) rfl rfl;have e5:=hφ 5 _ _ (by omega) rfl rfl;have e6:=hφ 6 _ _ (by omega) rfl rfl;have e7:=hφ 7 _ _ (by omega) rfl rfl;have q8:bM OO.heap.size OO (ax.tmps.getD 100 undef) (low+aD) (2) 6 1:=hφ 8 _ _ (by omega) rfl rfl;obtain ⟨v8,e8⟩:∃v,ax.tmps.getD 100 undef=v:=⟨_,rfl⟩;rw [e8] at q8;have Q8:=ah q8;clear q8;have q9:bM OO.heap.size OO (ax.tmps.getD 101 undef) (V0*((2:Nat):Int)-(low+aD)*(D0:Int)) (D0*2) 138 131:=hφ 9 _ _ (by omega) rfl rfl;obtain ⟨v9,e9⟩:∃v,ax.tmps.getD 101 undef=v:=⟨_,rfl⟩;rw [e9] at q9;have Q9:=ah q9;clear q9;have kS:bM OO.heap.size OO (ax.tmps.getD 102 undef) (bl) (1) 5 0:=hφ 10 _ _ (by omega) rfl rfl;obtain ⟨v10,e10⟩:∃v,ax.tmps.getD 102 undef=v:=⟨_,rfl⟩;rw [e10] at kS;have Q10:=ah kS;clear kS;have l7:bM OO.heap.size OO (ax.tmps.getD 103 undef) ((V0*((2:Nat):Int)-(low+aD)*(D0:Int))*((1:Nat):Int)+bl*((D0*2:Nat):Int)) (D0*2*1) 139 131:=hφ 11 _ _ (by omega) rfl rfl;obtain ⟨v11,e11⟩:∃v,ax.tmps.getD 103 undef=v:=⟨_,rfl⟩;rw [e11] at l7;have RD:=ah l7;clear l7;rw [bf hsh [(92,_),(93,_),(94,_),(95,_),(96,_),(97,_),(98,_),(99,_),(100,_),(101,_),(102,_),(103,_)] [92,93,94,95,96,97,98,99,100,101,102,103] rfl (by kernel_rfl) ⟨e0,e1,e2,e3,e4,e5,e6,e7,e8,e9,e10,e11,trivial⟩];clear hφ hsh e0 e1 e2 e3 e4 e5 e6 e7 e8 e9 e10 e11;simp only [cB,List.foldl_cons,List.foldl_nil,List.drop_succ_cons,List.drop_zero,Act.put,List.setIfInBounds_toArray,List.set_cons_succ,List.set_cons_zero];have yP:=hW.size;have hlk:=KX5.out.lt;have hzr5:=HR5.out.size;refine bX OO rfl _ _ rfl b19 rfl rfl RD.out (WX5.out.below hW).any ?_;intro w15 QY SY;simp only [Act.put];have KX6:=ah ((KX5.out.below hW).fE SY.1 (by omega));have Bw:=ah (aY (dI.out _ hW) SY.1 (by omega) (by omega));have VX6:=ah ((VX5.out.below hW).wM SY (by omega));have HY:=ah (show ∃V Dv,gY w15 b19 V Dv 139 131∧0<Dv∧V*(2*wd)=Dk true low aD bl wn wd*(Dv:Int) from ⟨_,_,QY,by have:=pR.out.1;omega,rel_rel pR.out.2⟩);clear QY SY hW;go_wp2_with fail;go_meet;exact ⟨Bw,KX6,VX6,HY⟩
        case rest=>
        obtain ⟨Bw,KX6,VX6,HY⟩:=hcut;obtain ⟨w16,rfl⟩:∃x,x=wc:=⟨wc,rfl⟩;obtain ⟨V,Dv,WY,hDv,hVD⟩:=HY.out;have WX6:=ah WY;clear HY WY KX5 HR5 VX5 WX5 pR;have hsd:0<sd:=by have:=HSK.out.2.2.1;simp only at this;omega
        have hwdp:0<wd:=by have:=HWX.out.2.2.1;simp only at this;omega
        obtain ⟨PF,hPF'⟩:∃p,bl*((Dv*1*sd.toNat:Nat):Int)+(V*((1:Nat):Int)-bl*(Dv:Int))*sn*((1:Nat):Int)=p:=⟨_,rfl⟩;obtain ⟨DF,hDF'⟩:∃d,1*(Dv*1*sd.toNat)=d:=⟨_,rfl⟩
        have eP:PF=bl*((Dv:Int)*sd)+(V-bl*(Dv:Int))*sn:=by
         rw [←hPF',Nat.mul_one,Int.natCast_mul,Int.toNat_of_nonneg (by omega),show ((1:Nat):Int)=1 from rfl,Int.mul_one,Int.mul_one]
        have eD:(DF:Int)=(Dv:Int)*sd:=by
         rw [←hDF',Nat.one_mul,Nat.mul_one,Int.natCast_mul,Int.toNat_of_nonneg (by omega)]
        have hPF:=ah hPF';have hDF:=ah hDF';have HRB:=ah (Nl rD.out.1.1 rD.out.1.2 rD.out.2 HLK.out.1 HLK.out.2 HWX.out HSK.out hDv hVD eP eD);have HRM:=ah ((MN hwdp hsd hDv hVD eP eD).trans HMV.out);clear hPF' hDF' eP eD hVD hDv;have dI:=ah (show ∀W,Below w16.heap.size w16 W→Below wr.heap.size wr W from fun W h=>Bw.out.trans (h.mono Bw.out.size));have lM:=ah (show ∀W,Below w16.heap.size w16 W→Below w6.heap.size w6 W from fun W h=>kr.out W (dI.out W h));go_upto_region 14 with fail;refine aX (by kernel_rfl) 8 (by simp) (by kernel_rfl) (by kernel_rfl) (by kernel_rfl) (by kernel_rfl) (fun jx vx wx=>match jx with | 0=>bM wx.heap.size wx (vx) (bl) (1) 5 0 | 1=>bM wx.heap.size wx (vx) (V) (Dv) 139 131 | 2=>bM wx.heap.size wx (vx) (bl) (1) 5 0 | 3=>bM wx.heap.size wx (vx) (V*((1:Nat):Int)-bl*(Dv:Int)) (Dv*1) 140 131 | 4=>bM wx.heap.size wx (vx) (sn) (sd.toNat) 16 16 | 5=>bM wx.heap.size wx (vx) ((V*((1:Nat):Int)-bl*(Dv:Int))*sn) (Dv*1*sd.toNat) 156 147 | 6=>bM wx.heap.size wx (vx) (PF) (DF) 157 147 | 7=>vx=(.int .i64 (AY PF DF)) | _=>True) (fun W=>Below w16.heap.size w16 W) (fun wx wy=>Below wx.heap.size wx wy) (Below.refl _ _).drew ?_ ?_ ?_ ?_
        ·intro jx vx wx wy h g
         match jx,h with
         | 0,h | 1,h | 2,h | 3,h | 4,h | 5,h | 6,h=>exact bM.up h g
         | 7,h=>exact h
         | jx+8,h=>exact trivial
        ·intro jx ox dx hj ho hd;exact bO (by kernel_rfl) hj ho hd
        ·intro ix ox ax W hi aC hsh hW hpre;have hsz:w16.heap.size≤W.heap.size:=hW.size;have GA:∀ob,Below W.heap.size W (W.alloc ob):=fun ob=>(Below.refl _ _).alloc (Nat.le_refl _) ob;have WA:∀ob,Below w16.heap.size w16 (W.alloc ob):=fun ob=>hW.alloc hsz ob;have t10:ax.tmps[10]?.getD undef=(.pointer (some ⟨bS,0,none⟩)):=gT (hsh.2.2 10 (aM (by kernel_rfl)));have t18:ax.tmps[18]?.getD undef=(.pointer (some ⟨b18,0,none⟩)):=gT (hsh.2.2 18 (aM (by kernel_rfl)));have t19:ax.tmps[19]?.getD undef=(.pointer (some ⟨b19,0,none⟩)):=gT (hsh.2.2 19 (aM (by kernel_rfl)));obtain ⟨LK,NQ,NU,NC,NI,NS,Nv,gJ,jC⟩:=(VX6.out.below hW);obtain ⟨AR,AQ,AP⟩:=pG gJ;obtain ⟨s_y,a_y,L_y,c_y,b_y,M_y,d_y,zm,Bb⟩:=(WX6.out.below hW);obtain ⟨xy0,xy1,xy2⟩:=pG zm;obtain ⟨s_u,a_u,L_u,c_u,b_u,M_u,d_u,wu,vJ⟩:=(C2.out.below (lM.out W hW));obtain ⟨xu0,xu1,xu2⟩:=pG wu;clear hsh
         match ix,hi,aC with
         | 0,_,aC=>
          cases aC;exact au (w':=W) (by simp [execOp,Act.eval,t18,AR,AQ,AP,go_sem]) ⟨_,rfl,jC,hW,Below.refl _ _⟩
         | 1,_,aC=>
          cases aC;exact au (w':=W) (by simp [execOp,Act.eval,t19,xy0,xy1,xy2,go_sem]) ⟨_,rfl,Bb,hW,Below.refl _ _⟩
         | 2,_,aC=>
          cases aC;exact au (w':=W) (by simp [execOp,Act.eval,t18,AR,AQ,AP,go_sem]) ⟨_,rfl,jC,hW,Below.refl _ _⟩
         | 3,_,aC=>
          cases aC;obtain ⟨v1,f1,r1⟩:=gR (fun v=>bM W.heap.size W v (V) (Dv) 139 131) (hpre ⟨1,.data⟩ (by simp) (by rfl) _ _ rfl rfl);obtain ⟨v2,f2,r2⟩:=gR (fun v=>bM W.heap.size W v (bl) (1) 5 0) (hpre ⟨2,.data⟩ (by simp) (by rfl) _ _ rfl rfl);refine aG (by simp [execOp,Act.eval,f1,f2,go_sem]) ((qA W.heap.size _ _ 139 131 5 0 140 _ _ _ _ W (Nat.le_refl _) (by omega) (by omega) (by omega) (by omega) r1 r2).mono ?_);rintro ex wy ⟨vn,rfl,hq,hb⟩;exact ⟨vn,rfl,_,rfl,hq,hW.trans (hb.mono hsz),hb⟩
         | 4,_,aC=>
          cases aC;exact au (w':=W) (by simp [execOp,Act.eval,t10,xu0,xu1,xu2,go_sem]) ⟨_,rfl,vJ,hW,Below.refl _ _⟩
         | 5,_,aC=>
          cases aC;obtain ⟨v3,f3,r3⟩:=gR (fun v=>bM W.heap.size W v (V*((1:Nat):Int)-bl*(Dv:Int)) (Dv*1) 140 131) (hpre ⟨3,.data⟩ (by simp) (by rfl) _ _ rfl rfl);obtain ⟨v4,f4,r4⟩:=gR (fun v=>bM W.heap.size W v (sn) (sd.toNat) 16 16) (hpre ⟨4,.data⟩ (by simp) (by rfl) _ _ rfl rfl);refine aG (by simp [execOp,Act.eval,f3,f4,go_sem]) ((uy W.heap.size _ _ 140 131 16 16 _ _ _ _ W (Nat.le_refl _) (by omega) (by omega) r3 r4).mono ?_);rintro ex wy ⟨vn,rfl,hq,hb⟩;exact ⟨vn,rfl,_,rfl,hq,hW.trans (hb.mono hsz),hb⟩
         | 6,_,aC=>
          cases aC;obtain ⟨v0,f0,r0⟩:=gR (fun v=>bM W.heap.size W v (bl) (1) 5 0) (hpre ⟨0,.data⟩ (by simp) (by rfl) _ _ rfl rfl);obtain ⟨v5,f5,r5⟩:=gR (fun v=>bM W.heap.size W v ((V*((1:Nat):Int)-bl*(Dv:Int))*sn) (Dv*1*sd.toNat) 156 147) (hpre ⟨5,.data⟩ (by simp) (by rfl) _ _ rfl rfl);refine aG (by simp [execOp,Act.eval,f0,f5,go_sem]) (((BR W.heap.size _ _ 5 0 156 147 157 _ _ _ _ W (Nat.le_refl _) (by omega) (by omega) (by omega) (by omega) r0 r5).mono (fun _ _ h=>eX h hPF.out hDF.out)).mono ?_);rintro ex wy ⟨vn,rfl,hq,hb⟩;exact ⟨vn,rfl,_,rfl,hq,hW.trans (hb.mono hsz),hb⟩
         | 7,_,aC=>
          cases aC;obtain ⟨v6,f6,r6⟩:=gR (fun v=>bM W.heap.size W v (PF) (DF) 157 147) (hpre ⟨6,.data⟩ (by simp) (by rfl) _ _ rfl rfl);refine aG (by simp [execOp,Act.eval,f6,go_sem]) ((roundS W.heap.size _ 157 147 _ _ W (Nat.le_refl _) (by omega) (by omega) HRB.out r6).mono ?_);rintro ex wy ⟨rfl,hb⟩;exact ⟨_,rfl,_,rfl,rfl,hW.trans (hb.mono hsz),hb⟩
         | ix+8,hi,_=>exact absurd hi (by omega)
        ·intro ax Hf hsh hW hφ;have q0:bM Hf.heap.size Hf (ax.tmps.getD 104 undef) (bl) (1) 5 0:=hφ 0 _ _ (by omega) rfl rfl;obtain ⟨v0,e0⟩:∃v,ax.tmps.getD 104 undef=v:=⟨_,rfl⟩;rw [e0] at q0;have Q0:=ah q0;clear q0;have q1:bM Hf.heap.size Hf (ax.tmps.getD 105 undef) (V) (Dv) 139 131:=hφ 1 _ _ (by omega) rfl rfl;obtain ⟨v1,e1⟩:∃v,ax.tmps.getD 105 undef=v:=⟨_,rfl⟩;rw [e1] at q1;have Q1:=ah q1;clear q1;have q2:bM Hf.heap.size Hf (ax.tmps.getD 106 undef) (bl) (1) 5 0:=hφ 2 _ _ (by omega) rfl rfl;obtain ⟨v2,e2⟩:∃v,ax.tmps.getD 106 undef=v:=⟨_,rfl⟩;rw [e2] at q2;have Q2:=ah q2;clear q2;have q3:bM Hf.heap.size Hf (ax.tmps.getD 107 undef) (V*((1:Nat):Int)-bl*(Dv:Int)) (Dv*1) 140 131:=hφ 3 _ _ (by omega) rfl rfl;obtain ⟨v3,e3⟩:∃v,ax.tmps.getD 107 undef=v:=⟨_,rfl⟩;rw [e3] at q3;have Q3:=ah q3;clear q3;have q4:bM Hf.heap.size Hf (ax.tmps.getD 108 undef) (sn) (sd.toNat) 16 16:=hφ 4 _ _ (by omega) rfl rfl;obtain ⟨v4,e4⟩:∃v,ax.tmps.getD 108 undef=v:=⟨_,rfl⟩;rw [e4] at q4;have Q4:=ah q4;clear q4;have q5:bM Hf.heap.size Hf (ax.tmps.getD 109 undef) ((V*((1:Nat):Int)-bl*(Dv:Int))*sn) (Dv*1*sd.toNat) 156 147:=hφ 5 _ _ (by omega) rfl rfl;obtain ⟨v5,e5⟩:∃v,ax.tmps.getD 109 undef=v:=⟨_,rfl⟩;rw [e5] at q5;have Q5:=ah q5;clear q5;have q6:bM Hf.heap.size Hf (ax.tmps.getD 110 undef) (PF) (DF) 157 147:=hφ 6 _ _ (by omega) rfl rfl;obtain ⟨v6,e6⟩:∃v,ax.tmps.getD 110 undef=v:=⟨_,rfl⟩;rw [e6] at q6;have Q6:=ah q6;clear q6;have e7:=hφ 7 _ _ (by omega) rfl rfl;rw [bf hsh [(104,_),(105,_),(106,_),(107,_),(108,_),(109,_),(110,_),(111,_)] [104,105,106,107,108,109,110,111] rfl (by kernel_rfl) ⟨e0,e1,e2,e3,e4,e5,e6,e7,trivial⟩];clear hφ hsh e0 e1 e2 e3 e4 e5 e6 e7;simp only [cB,List.foldl_cons,List.foldl_nil,List.drop_succ_cons,List.drop_zero,Act.put,List.setIfInBounds_toArray,List.set_cons_succ,List.set_cons_zero];have KX7:=ah (KX6.out.below hW);have HR7:=ah (dI.out _ hW);clear hW Q0 Q1 Q2 Q3 Q4 Q5 Q6 KX6 Bw VX6 WX6 dI lM hPF hDF HRB;generalize AY PF DF=RQ at *;have HRO:=ah (HOV.out.below HR7.out);have qW:=ah (kr.out _ HR7.out);have x0:=KX7.out.cell (i:=0) rfl;have x1:=KX7.out.cell (i:=1) rfl;have xl:=KX7.out.lt
         have hcl:max 0 (min 65535 RQ)=mv:=by
          rw [←HRM.out];unfold sD;split
          ·omega
          ·split<;>omega
         have hz7:=qW.out.size;have Ou:=ah (qW.out.alloc hz7 (.cells #[.int .i64 ku,.string ks,.int .i64 mv] 42));have HRP:=ah (HRO.out.below ((Below.refl _ _).alloc (Nat.le_refl _) (.cells #[.int .i64 ku,.string ks,.int .i64 mv] 42)));go_wp2_with (first | (at_builtin;refine xW rfl _ _ rfl w6.heap.size 1 ov L1 ⟨ku,ks,mv⟩ ⟨Hf.heap.size,0,none⟩ rfl rfl HRP.out (zS Hf ⟨ku,ks,mv⟩ _) HLM.out (by simp;omega) ?_;intro v' wz hown hgz) | fail);have Hu:=ah (show cu w6.heap.size wz v' L2 by rw [xR.out];exact hown);have gu:=ah (HRP.out.keeps Ou.out hgz (Nat.le_refl _) (by simp;omega));clear hown hgz;go_roundw
         case rel=>exact ⟨k+1,_,by omega,by first | rfl | go_num,rfl,ah (by rw [HL2.out];exact Hu.out),gu⟩
         case measure=>simp [intOf];omega
      ·have hkk:k=aO.length:=by omega
       subst hkk;have HR:=ah (show cu w6.heap.size wr ov RES by have:=HOV.out;rw [show SL.take aO.length=SL by rw [←HLN.out,List.take_length]] at this;rw [HV.out];exact this);obtain ⟨oa,oc,hov⟩:=HR.out.shape;subst hov;go_wp2_with fail;go_ret;exact ⟨_,rfl,HR.out.lower (by omega),CB.out.trans (HB.out.mono (by omega))⟩
end Go.Proofs.YtopmdeefcjdadaaGreat
