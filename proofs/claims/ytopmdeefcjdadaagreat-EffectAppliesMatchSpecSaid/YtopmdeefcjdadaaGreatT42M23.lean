import Derived.Test.YtopmdeefcjdadaaGreatT42M00
import Derived.Test.YtopmdeefcjdadaaGreatT42M22
import Derived.Deep.RegionHeld3
import Derived.Test.YtopmdeefcjdadaaGreatT42M21
set_option linter.unusedVariables false
set_option linter.unusedSimpArgs false
set_option maxRecDepth 100000
set_option maxHeartbeats 32000000
namespace Go.Proofs.YtopmdeefcjdadaaGreat
open Go.RowKit
def sg (s:Bool) (n:Nat):Int:=match s with | true=>-(n:Int) | false=>(n:Int)
def IsF (B:Nat) (w:World) (s:Bool) (x y:Value) (p:Int) (d:Nat):Prop:=∃n,gP B w x n∧gP B w y d∧p=sg s n
def sM (B:Nat) (w:World) (v:Value) (p:Int) (d:Nat):Prop:=∃s x y,v=.agg #[.bool s,x,y]∧IsF B w s x y p d
def Off (g:Nat) (v:Value):Prop:=∀b,v.ownBlock=some b→g<b
def NewV (lo:Nat) (v:Value):Prop:=∃s x y,v=.agg #[.bool s,x,y]∧(∀b,x.ownBlock=some b→lo≤b)∧(∀b,y.ownBlock=some b→lo≤b)
theorem PS {lo g h:Nat} {s:Bool} {x y:Value} (hx:Off g x) (hy:Off h y) (h1:lo≤g+1) (h2:lo≤h+1):NewV lo (.agg #[.bool s,x,y]):=
 ⟨s,x,y,rfl,fun b hb=>by have:=hx b hb;omega,fun b hb=>by have:=hy b hb;omega⟩
def NewQ (p:Int) (d:Nat) (w:World) (e:Ending) (w':World):Prop:=∃v,e=.returned v∧sM w'.heap.size w' v p d∧NewV w.heap.size v∧Below w.heap.size w w'
theorem sM.below {B d:Nat} {p:Int} {w w':World} {v:Value} (h:sM B w v p d) (hb:Below B w w'):sM B w' v p d:=by
 obtain ⟨s,x,y,rfl,n,h1,h2,h3⟩:=h;exact ⟨s,x,y,rfl,n,h1.below hb,h2.below hb,h3⟩
theorem sM.more {B B' d:Nat} {p:Int} {w:World} {v:Value} (h:sM B w v p d) (hB:B≤B'):sM B' w v p d:=by
 obtain ⟨s,x,y,rfl,n,h1,h2,h3⟩:=h;exact ⟨s,x,y,rfl,n,h1.more hB,h2.more hB,h3⟩
theorem bC {B n:Nat} {w:World} {v:Value} (h:gP B w v n):∃ao L cap,v=.slice ao L cap∧fT n L:=by
 obtain ⟨L,hl,ao,cap,rfl,_⟩:=h;exact ⟨ao,L,cap,rfl,hl⟩
theorem fu (s:Bool) (n:Nat):(sg s n).natAbs=n:=by cases s<;>simp [sg]
theorem qC {B d n:Nat} {w:World} {s:Bool} {x y:Value} (h1:gP B w x n) (h2:gP B w y d):sM B w (.agg #[.bool s,x,y]) (sg s n) d:=⟨s,x,y,rfl,n,h1,h2,rfl⟩
structure oJ (W:World) (g:Nat) (c0 c1 c2:Value):Prop where
 c0:W.cell? ⟨g,0,none⟩=some c0
 c1:W.cell? ⟨g,1,none⟩=some c1
 c2:W.cell? ⟨g,2,none⟩=some c2
 f0:W.frozen? ⟨g,0,none⟩=false
 f1:W.frozen? ⟨g,1,none⟩=false
 f2:W.frozen? ⟨g,2,none⟩=false
theorem jN (w:World) (c0 c1 c2:Value) (T:TypeId):oJ (w.alloc (.cells #[c0,c1,c2] T)) w.heap.size c0 c1 c2:=
 ⟨by simp [go_sem],by simp [go_sem],by simp [go_sem],by simp [go_sem],by simp [go_sem],by simp [go_sem]⟩
theorem oJ.below {w W:World} {B g:Nat} {c0 c1 c2:Value} (h:oJ w g c0 c1 c2) (hb:Below B w W) (hg:g<B):oJ W g c0 c1 c2:=
 ⟨(hb.cell (p:=⟨g,0,none⟩) hg).trans h.c0,(hb.cell (p:=⟨g,1,none⟩) hg).trans h.c1,(hb.cell (p:=⟨g,2,none⟩) hg).trans h.c2,
  (hb.frozen (p:=⟨g,0,none⟩) hg).trans h.f0,(hb.frozen (p:=⟨g,1,none⟩) hg).trans h.f1,(hb.frozen (p:=⟨g,2,none⟩) hg).trans h.f2⟩
theorem xK {B:Nat} {w W:World} (h:Below B w W) (g i:Nat) (u:Value) (hg:B≤g):Below B w (W.setCell ⟨g,i,none⟩ u):=h.setCell hg u
theorem om {w W:World} {o:Obj} (h:Below (w.alloc o).heap.size (w.alloc o) W):Below w.heap.size w W∧w.heap.size<W.heap.size:=by
 have h1:=h.size;simp at h1;exact ⟨((Below.refl _ _).alloc (Nat.le_refl _) o).trans (h.mono (by simp)),by omega⟩
theorem lK {w:World} {base e size n g:Nat} {v:Value} {xs:List Value} (h:w.ownsRow base e size v n xs) (hg:g<base):Off g v:=fun b hb=>by
 have:=(h.lt b hb).1;omega
theorem gP.set {B n g i:Nat} {w:World} {v u:Value} (h:gP B w v n) (hg:Off g v):gP B (w.setCell ⟨g,i,none⟩ u) v n:=by
 obtain ⟨L,hl,ao,cap,rfl,h1,h2,h3,hx⟩:=h;refine ⟨L,hl,ao,cap,rfl,h1,h2,h3,fun hL=>?_⟩;obtain ⟨b,off,rfl,hlt,hc⟩:=hx hL;refine ⟨b,off,rfl,hlt,fun i hi=>?_⟩;have hne:b≠g:=Nat.ne_of_gt (hg b rfl);rw [←hc i hi];exact World.cell?_of_block (a:=⟨b,off+i,none⟩) (heap_setCell_other w _ b _ (fun e=>hne (by simp [e])))
theorem gP.zw {B n g:Nat} {w:World} {v u0 u1 u2:Value} (h:gP B w v n) (hg:Off g v):gP B (((w.setCell ⟨g,0,none⟩ u0).setCell ⟨g,1,none⟩ u1).setCell ⟨g,2,none⟩ u2) v n:=((h.set hg).set hg).set hg
theorem bN {B g:Nat} {w W:World} {u0 u1 u2:Value} (h:Below B w W) (hg:B≤g):Below B w (((W.setCell ⟨g,0,none⟩ u0).setCell ⟨g,1,none⟩ u1).setCell ⟨g,2,none⟩ u2):=xK (xK (xK h _ _ _ hg) _ _ _ hg) _ _ _ hg
theorem sM.zw {B d g:Nat} {p:Int} {w:World} {v u0 u1 u2:Value} (h:sM B w v p d) (hn:NewV (g+1) v):sM B (((w.setCell ⟨g,0,none⟩ u0).setCell ⟨g,1,none⟩ u1).setCell ⟨g,2,none⟩ u2) v p d:=by
 obtain ⟨s,x,y,rfl,n,h1,h2,h3⟩:=h;obtain ⟨s',x',y',e,f1,f2⟩:=hn;cases e;exact ⟨s,x,y,rfl,n,h1.zw f1,h2.zw f2,h3⟩
theorem dW {g:Nat} {W:World} {u0 u1 u2:Value}:(((W.setCell ⟨g,0,none⟩ u0).setCell ⟨g,1,none⟩ u1).setCell ⟨g,2,none⟩ u2).heap.size=W.heap.size:=by simp
theorem Fz (a b:Nat) (w:World) (ha:a≤9223372036854775807) (hb:b≤9223372036854775807):Calls Tryz.prog 54 #[.int .i64 a,.int .i64 b] w (NewQ a b w):=by
 have HA:=ah ha;have HB:=ah hb;clear ha hb;go_enter Tryz.func54,Tryz.ntmps54;go_wp2_with fail;refine (kZ a _ HA.out).mono ?_;rintro e w1 ⟨v1,L,rfl,hl1,ho1,hb1⟩;have Hw:=ah (iV ho1 hl1);have HB1:=ah hb1;have mO:=ah (lK ho1 (show w.heap.size<_ by simp));obtain ⟨ao,cap,rfl⟩:=bK ho1;obtain ⟨hbw,hsz⟩:=om hb1;have bA:=ah hbw;have vY:=ah ((jN w _ _ _ _).below hb1 (by simp));clear ho1 hb1 hl1 hbw;go_wp2_with fail;refine (kZ b _ HB.out).mono ?_;rintro e w2 ⟨v2,M,rfl,hl2,ho2,hb2⟩;have uU:=ah (iV ho2 hl2);have HB2:=ah hb2;have nT:=ah (lK ho2 hsz);obtain ⟨bo,cap2,rfl⟩:=bK ho2;obtain ⟨x0,x1,x2,y0,y1,y2⟩:=vY.out.below hb2 hsz;have hsz2:=hb2.size;clear ho2 hb2 hl2 vY;go_wp2
 have HW2:=bA.out.trans (HB2.out.mono (Nat.le_of_lt hsz));refine bodyPost_ret (v:=.agg #[.bool false,.slice ao L cap,.slice bo M cap2]) (by simp [results,Tryz.results54,go_sem,x0,x1,x2]) rfl ⟨_,rfl,?_,PS mO.out nT.out (by omega) (by omega),bN HW2 (Nat.le_refl _)⟩;rw [dW];exact qC (((Hw.out.below HB2.out).more hsz2).zw mO.out) (uU.out.zw nT.out)
theorem K8 (n:Int) (w:World) (h0:-4611686018427387904≤n) (h1:n≤4611686018427387904):Calls Tryz.prog 48 #[.int .i64 n] w (NewQ n 1 w):=by
 by_cases hneg:n<0
 ·obtain ⟨a,ha⟩:∃a:Nat,-n=(a:Int):=⟨(-n).toNat,by omega⟩;have HA:=ah (show a≤9223372036854775807 by omega);have HE:=ah (show n=sg true a by show n=-(a:Int);omega);go_enter Tryz.func48,Tryz.ntmps48;go_wp2_with fail;refine (kZ a _ HA.out).mono ?_;rintro e w1 ⟨v1,L,rfl,hl1,ho1,hb1⟩;have Hw:=ah (iV ho1 hl1);have HB1:=ah hb1;have mO:=ah (lK ho1 (show w.heap.size<_ by simp));obtain ⟨ao,cap,rfl⟩:=bK ho1;obtain ⟨hbw,hsz⟩:=om hb1;have bA:=ah hbw;have vY:=ah ((jN w _ _ _ _).below hb1 (by simp));clear ho1 hb1 hl1 hbw;go_wp2_with fail;refine (kZ 1 _ (by omega)).mono ?_;rintro e w2 ⟨v2,M,rfl,hl2,ho2,hb2⟩;have uU:=ah (iV ho2 hl2);have HB2:=ah hb2;have nT:=ah (lK ho2 hsz);obtain ⟨bo,cap2,rfl⟩:=bK ho2;obtain ⟨x0,x1,x2,y0,y1,y2⟩:=vY.out.below hb2 hsz;have hsz2:=hb2.size;clear ho2 hb2 hl2 vY;go_wp2
  have HW2:=bA.out.trans (HB2.out.mono (Nat.le_of_lt hsz));refine bodyPost_ret (v:=.agg #[.bool true,.slice ao L cap,.slice bo M cap2]) (by simp [results,Tryz.results48,go_sem,x0,x1,x2]) rfl ⟨_,rfl,?_,PS mO.out nT.out (by omega) (by omega),bN HW2 (Nat.le_refl _)⟩;rw [dW,HE.out];exact qC (((Hw.out.below HB2.out).more hsz2).zw mO.out) (uU.out.zw nT.out)
 ·obtain ⟨a,rfl⟩:∃a:Nat,n=(a:Int):=⟨n.toNat,by omega⟩;have HA:=ah (show a≤9223372036854775807 by omega);clear h0 h1 hneg;go_enter Tryz.func48,Tryz.ntmps48;go_wp2_with fail;refine (kZ a _ HA.out).mono ?_;rintro e w1 ⟨v1,L,rfl,hl1,ho1,hb1⟩;have Hw:=ah (iV ho1 hl1);have HB1:=ah hb1;have mO:=ah (lK ho1 (show w.heap.size<_ by simp));obtain ⟨ao,cap,rfl⟩:=bK ho1;obtain ⟨hbw,hsz⟩:=om hb1;have bA:=ah hbw;have vY:=ah ((jN w _ _ _ _).below hb1 (by simp));clear ho1 hb1 hl1 hbw;go_wp2_with fail;refine (kZ 1 _ (by omega)).mono ?_;rintro e w2 ⟨v2,M,rfl,hl2,ho2,hb2⟩;have uU:=ah (iV ho2 hl2);have HB2:=ah hb2;have nT:=ah (lK ho2 hsz);obtain ⟨bo,cap2,rfl⟩:=bK ho2;obtain ⟨x0,x1,x2,y0,y1,y2⟩:=vY.out.below hb2 hsz;have hsz2:=hb2.size;clear ho2 hb2 hl2 vY;go_wp2
  have HW2:=bA.out.trans (HB2.out.mono (Nat.le_of_lt hsz));refine bodyPost_ret (v:=.agg #[.bool false,.slice ao L cap,.slice bo M cap2]) (by simp [results,Tryz.results48,go_sem,x0,x1,x2]) rfl ⟨_,rfl,?_,PS mO.out nT.out (by omega) (by omega),bN HW2 (Nat.le_refl _)⟩;rw [dW];exact qC (s:=false) (((Hw.out.below HB2.out).more hsz2).zw mO.out) (uU.out.zw nT.out)
theorem sg_not (s:Bool) (n:Nat):sg (!s) n=-sg s n:=by cases s<;>simp [sg]
theorem DN (s:Bool) (x y:Value) (w:World) (hx:∃ao L cap,x=.slice ao L cap) (hy:∃ao L cap,y=.slice ao L cap):Calls Tryz.prog 89 #[.agg #[.bool s,x,y]] w fun e w'=>e=.returned (.agg #[.bool (!s),x,y])∧Below w.heap.size w w':=by
 obtain ⟨ao,L,cap,rfl⟩:=hx;obtain ⟨bo,M,cap2,rfl⟩:=hy;go_enter Tryz.func89,Tryz.ntmps89;go_wp2
 exact bodyPost_ret (v:=.agg #[.bool (!s),.slice ao L cap,.slice bo M cap2]) (by simp [results,Tryz.results89,go_sem]) rfl ⟨rfl,by go_grown⟩
theorem sg_mul (s t:Bool) (n m:Nat):sg (s !=t) (n*m)=sg s n*sg t m:=by
 cases s<;>cases t<;>simp [sg,Int.neg_mul,Int.mul_neg]
theorem oJ.alloc {w:World} {g:Nat} {c0 c1 c2:Value} (h:oJ w g c0 c1 c2) (hg:g<w.heap.size) (o:Obj):oJ (w.alloc o) g c0 c1 c2:=
 h.below ((Below.refl _ _).alloc (Nat.le_refl _) o) hg
def W3 (w:World) (s t:Bool) (x y z u:Value):World:=((w.alloc (.cells #[.bool s,x,y] 99)).alloc (.cells #[.bool t,z,u] 99)).alloc (.cells #[.bool false,.slice none 0 0,.slice none 0 0] 99)
theorem yS (w:World) (s t:Bool) (x y z u:Value):(W3 w s t x y z u).heap.size=w.heap.size+1+1+1:=by simp [W3]
theorem vR (w:World) (s t:Bool) (x y z u:Value):Below w.heap.size w (W3 w s t x y z u):=(((Below.refl _ _).alloc (Nat.le_refl _) _).alloc (by simp) _).alloc (by simp<;>omega) _
theorem W3_a (w:World) (s t:Bool) (x y z u:Value):oJ (W3 w s t x y z u) w.heap.size (.bool s) x y:=((jN w _ _ _ _).alloc (by simp) _).alloc (by simp<;>omega) _
theorem W3_b (w:World) (s t:Bool) (x y z u:Value):oJ (W3 w s t x y z u) (w.heap.size+1) (.bool t) z u:=by
 have:=(jN (w.alloc (.cells #[.bool s,x,y] 99)) (.bool t) z u 99);have h:=this.alloc (by simp) (.cells #[.bool false,.slice none 0 0,.slice none 0 0] 99);simpa [W3] using h
theorem W3_r (w:World) (s t:Bool) (x y z u:Value):oJ (W3 w s t x y z u) (w.heap.size+1+1) (.bool false) (.slice none 0 0) (.slice none 0 0):=by
 have:=(jN ((w.alloc (.cells #[.bool s,x,y] 99)).alloc (.cells #[.bool t,z,u] 99)) (.bool false) (.slice none 0 0) (.slice none 0 0) 99);simpa [W3] using this
def GN (g n:Nat) (w:World) (e:Ending) (w':World):Prop:=∃ao L cap,e=.returned (.slice ao L cap)∧gP w'.heap.size w' (.slice ao L cap) n∧Off g (.slice ao L cap)∧Below w.heap.size w w'
theorem qx {g n:Nat} {w w':World} {e:Ending} (h:NR w.heap.size n w e w') (hg:g<w.heap.size):GN g n w e w':=by
 obtain ⟨v,L,rfl,h2,h3,h4⟩:=h;obtain ⟨ao,cap,rfl⟩:=bK h3;exact ⟨ao,L,cap,rfl,iV h3 h2,lK h3 hg,h4⟩
theorem jg {n:Nat} {w w':World} {v:Value} (h:gP w.heap.size w v n) (hb:Below w.heap.size w w'):gP w'.heap.size w' v n:=(h.below hb).more hb.size
theorem JF (a b i:Nat):iJ a b i≤1:=by unfold iJ;split<;>omega
theorem Ef (a b:Nat):iJ a b 0=0:=by simp [iJ,Nat.mod_one]
theorem Ce {d c:Nat} {s x:Int} (h:(d:Int)=s+(if s<0 then 1000000000 else 0)∧c=(if s<0 then 1 else 0)) (hx:x=s) (h0:¬s<0):Value.int .i64 x=Value.int .i64 (d:Nat)∧c=0:=by
 obtain ⟨h1,h2⟩:=h;rw [if_neg h0] at h1 h2;exact ⟨by rw [h1,hx,Int.add_zero],h2⟩
theorem Cg {d c:Nat} {s x:Int} (h:(d:Int)=s+(if s<0 then 1000000000 else 0)∧c=(if s<0 then 1 else 0)) (hx:x=s) (h0:s<0):Value.int .i64 (x+1000000000)=Value.int .i64 (d:Nat)∧c=1:=by
 obtain ⟨h1,h2⟩:=h;rw [if_pos h0] at h1 h2;exact ⟨by rw [h1,hx],h2⟩
theorem Ch (B n m:Nat) (v u:Value) (w:World) (hB:B≤w.heap.size) (fn:Fit n) (hle:m≤n) (hv:gP B w v n) (hu:gP B w u m):Calls Tryz.prog 82 #[v,u] w (NR w.heap.size (n-m) w):=by
 obtain ⟨L,hL,ao,cap,rfl,c1,c2,hn,hx⟩:=hv;obtain ⟨M,hM,bo,dap,rfl,d1,d2,hm,hy⟩:=hu;have hl:=fn.len hL
 have hml:M≤L:=by
  by_cases h:L<M
  ·have:=vE hL hM h;omega
  ·omega
 have HX:=ah hx;have HY:=ah hy;have Hn:=ah hn;have Hm:=ah hm;have Hle:=ah hle;clear hx hy hn hm hL hM fn hle;obtain ⟨i0,hi,hz0,hz1,hz2⟩:=info_parts lT;have Hi:=ah hi;have Bu:=ah hz0;have Bt:=ah hz1;have Br:=ah hz2;clear hi hz0 hz1 hz2;go_enter Tryz.func82,Tryz.ntmps82;go_wp2
 go_loopw [5,6,11] (fun o c i wr=>∃k:Nat,k≤L∧i=.int .i64 k∧c=.int .i64 (iJ n m k:Nat)∧wr.ownsRow w.heap.size 3 1 o k (bI (n-m) k)∧Below w.heap.size w wr) (fun _ _ i _=>L-(intOf i).toNat)
 case atStart=>exact ⟨0,by omega,rfl,by rw [Ef];rfl,by simpa [bI] using World.ownsRow_nil _ _ _ _,Below.refl _ _⟩
 case round=>
  rename_i wr
  obtain ⟨k,hk,rfl,rfl,hown,hb⟩:=hrel;have HO:=ah hown;have HB:=ah hb;have hsz:=hb.size;have HD:=ah (PY n m k Hle.out);have yV:=ah (fun h:M≤k=>bV (iU Hm.out h));have hc1:=JF n m k;have Hl:=fZ n k;have Hg:=fZ m k;obtain ⟨Ry,cap2,rfl⟩:=bK hown;generalize hcn:iJ n m (k+1)=cn at *;have vU:=ah hcn;generalize iJ n m k=c at *;clear hown hb hcn;by_cases hkL:k<L
  ·obtain ⟨b,off,rfl,hbb,hcx⟩:=HX.out (by omega);have hcx':=(HB.out.cell (p:=⟨b,off+k,none⟩) (Nat.lt_of_lt_of_le hbb hB)).trans (hcx k hkL);clear hcx;generalize dg n k=x at *;by_cases hkM:k<M
   ·obtain ⟨b',off',rfl,hbb',hcy⟩:=HY.out (by omega);have hcy':=(HB.out.cell (p:=⟨b',off'+k,none⟩) (Nat.lt_of_lt_of_le hbb' hB)).trans (hcy k hkM);clear hcy yV;generalize dg m k=y at *;by_cases hs:(x:Int)-(c:Int)-(y:Int)<0
    ·obtain ⟨hd2,hc2⟩:=Cg HD.out (x:=(x:Int)-(c:Int)-(y:Int)) (by omega) (by omega);have HD2:=ah hd2;obtain rfl:=hc2;clear HD hd2;go_wp2_with (at_builtin;refine wpList_append_own _ rfl _ _ 97 rfl w.heap.size 3 i0 (.int .i64 0) 1 8 Tryz.underlying97 Hi.out Bu.out Bt.out Br.out rfl (by decide) _ _ _ rfl (HO.out.alloc _) ⟨wr.heap.size,0,none⟩ 1 1 [.int .i64 ((x:Int)-(c:Int)-(y:Int)+1000000000)] rfl rfl (jK _ _ _ _) (jM _) (by unfold maxLen;omega) (by omega) (by simp;omega) ?_);all_goals intro v' w2 hown2 hgrow _
     all_goals rw [gU HD2.out] at hown2
     all_goals have HB2:=ah (gV HB.out HO.out hgrow hsz)
     all_goals obtain ⟨Ej,nI,rfl⟩:=bK hown2
     all_goals have nT:=ah hown2
     all_goals clear hown2 hgrow HO HB HD2
     all_goals go_wp2
     all_goals go_roundw
     all_goals (first | exact ⟨k+1,by omega,by go_num,by rw [vU.out];rfl,nT.out,HB2.out⟩ | (simp [intOf];omega))
    ·obtain ⟨hd2,hc2⟩:=Ce HD.out (x:=(x:Int)-(c:Int)-(y:Int)) (by omega) (by omega);have HD2:=ah hd2;obtain rfl:=hc2;clear HD hd2;go_wp2_with (at_builtin;refine wpList_append_own _ rfl _ _ 97 rfl w.heap.size 3 i0 (.int .i64 0) 1 8 Tryz.underlying97 Hi.out Bu.out Bt.out Br.out rfl (by decide) _ _ _ rfl (HO.out.alloc _) ⟨wr.heap.size,0,none⟩ 1 1 [.int .i64 ((x:Int)-(c:Int)-(y:Int))] rfl rfl (jK _ _ _ _) (jM _) (by unfold maxLen;omega) (by omega) (by simp;omega) ?_);all_goals intro v' w2 hown2 hgrow _
     all_goals rw [gU HD2.out] at hown2
     all_goals have HB2:=ah (gV HB.out HO.out hgrow hsz)
     all_goals obtain ⟨Ej,nI,rfl⟩:=bK hown2
     all_goals have nT:=ah hown2
     all_goals clear hown2 hgrow HO HB HD2
     all_goals go_wp2
     all_goals go_roundw
     all_goals (first | exact ⟨k+1,by omega,by go_num,by rw [vU.out];rfl,nT.out,HB2.out⟩ | (simp [intOf];omega))
   ·have hy0:=yV.out (by omega);rw [hy0] at HD;clear yV hy0 Hg;by_cases hs:(x:Int)-(c:Int)<0
    ·obtain ⟨hd2,hc2⟩:=Cg HD.out (x:=(x:Int)-(c:Int)) (by omega) (by omega);have HD2:=ah hd2;obtain rfl:=hc2;clear HD hd2;go_wp2_with (at_builtin;refine wpList_append_own _ rfl _ _ 97 rfl w.heap.size 3 i0 (.int .i64 0) 1 8 Tryz.underlying97 Hi.out Bu.out Bt.out Br.out rfl (by decide) _ _ _ rfl (HO.out.alloc _) ⟨wr.heap.size,0,none⟩ 1 1 [.int .i64 ((x:Int)-(c:Int)+1000000000)] rfl rfl (jK _ _ _ _) (jM _) (by unfold maxLen;omega) (by omega) (by simp;omega) ?_);all_goals intro v' w2 hown2 hgrow _
     all_goals rw [gU HD2.out] at hown2
     all_goals have HB2:=ah (gV HB.out HO.out hgrow hsz)
     all_goals obtain ⟨Ej,nI,rfl⟩:=bK hown2
     all_goals have nT:=ah hown2
     all_goals clear hown2 hgrow HO HB HD2
     all_goals go_wp2
     all_goals go_roundw
     all_goals (first | exact ⟨k+1,by omega,by go_num,by rw [vU.out];rfl,nT.out,HB2.out⟩ | (simp [intOf];omega))
    ·obtain ⟨hd2,hc2⟩:=Ce HD.out (x:=(x:Int)-(c:Int)) (by omega) (by omega);have HD2:=ah hd2;obtain rfl:=hc2;clear HD hd2;go_wp2_with (at_builtin;refine wpList_append_own _ rfl _ _ 97 rfl w.heap.size 3 i0 (.int .i64 0) 1 8 Tryz.underlying97 Hi.out Bu.out Bt.out Br.out rfl (by decide) _ _ _ rfl (HO.out.alloc _) ⟨wr.heap.size,0,none⟩ 1 1 [.int .i64 ((x:Int)-(c:Int))] rfl rfl (jK _ _ _ _) (jM _) (by unfold maxLen;omega) (by omega) (by simp;omega) ?_);all_goals intro v' w2 hown2 hgrow _
     all_goals rw [gU HD2.out] at hown2
     all_goals have HB2:=ah (gV HB.out HO.out hgrow hsz)
     all_goals obtain ⟨Ej,nI,rfl⟩:=bK hown2
     all_goals have nT:=ah hown2
     all_goals clear hown2 hgrow HO HB HD2
     all_goals go_wp2
     all_goals go_roundw
     all_goals (first | exact ⟨k+1,by omega,by go_num,by rw [vU.out];rfl,nT.out,HB2.out⟩ | (simp [intOf];omega))
  ·obtain rfl:k=L:=by omega
   have HL:=ah (Nat.lt_of_le_of_lt (Nat.sub_le n m) Hn.out);clear HD vU yV Hl Hg;go_wp2_with (go_at_call 99;refine (mY _ _ _ _ _ HO.out HL.out).mono ?_;rintro e w' ⟨⟨v',L',rfl,hl',ho'⟩,rfl⟩)
   all_goals
    have HO':=ah ho';have HL':=ah hl';clear ho' hl';go_wp2
    go_ret;exact ⟨_,_,rfl,HL'.out,HO'.out,HB.out⟩
theorem zo (s:Bool) (n d:Nat):sg s n*(d:Int)=sg s (n*d):=by cases s<;>simp [sg,Int.neg_mul]
theorem sg_add (s:Bool) (n m:Nat):sg s n+sg s m=sg s (n+m):=by cases s<;>simp [sg]<;>omega
theorem sg_sub (s:Bool) {n m:Nat} (h:m≤n):sg s n+sg (!s) m=sg s (n-m):=by cases s<;>simp [sg]<;>omega
theorem sg_sub' (s:Bool) {n m:Nat} (h:n≤m):sg s n+sg (!s) m=sg (!s) (m-n):=by cases s<;>simp [sg]<;>omega
theorem Jd {B B':Nat} {w:World} {v:Value} {a b:Nat} (h:gP B w v a) (k:gP B' w v b):a=b:=by
 obtain ⟨L,hl,ao,cap,e,h1,h2,h3,h4⟩:=h;obtain ⟨M,hm,ao',cap',e',k1,k2,k3,k4⟩:=k;rw [e] at e';cases e';refine Rf h3 k3 fun i hi=>?_;obtain ⟨b1,o1,q1,_,c1⟩:=h4 (by omega);obtain ⟨b2,o2,q2,_,c2⟩:=k4 (by omega);rw [q1] at q2;cases q2;have t:=(c1 i hi).symm.trans (c2 i hi);simp at t;exact_mod_cast t
noncomputable def valN (w:World) (v:Value):Nat:=Classical.epsilon (fun n=>gP w.heap.size w v n)
theorem Ka {w:World} {v:Value} {n:Nat} (h:gP w.heap.size w v n):valN w v=n:=Jd (Classical.epsilon_spec (p:=fun n=>gP w.heap.size w v n) ⟨n,h⟩) h
theorem Gp (a b:Nat) (v u:Value) (w:World) (fa:Fit a) (fb:Fit b) (hv:gP w.heap.size w v a) (hu:gP w.heap.size w u b) :
  Calls Tryz.prog 107 #[v,u] w fun e w'=>∃x,e=.returned x∧gP w'.heap.size w' x (Nat.gcd a b)∧Below w.heap.size w w':=by
 have HV:=ah hv;have HU:=ah hu;have FA:=ah fa;have FB:=ah fb;clear hv hu fa fb;go_enter Tryz.func107,Tryz.ntmps107;go_wp2_with fail;go_loopw [0,1] (fun x y wx=>∃n m:Nat,Hid (gP wx.heap.size wx x n)∧Hid (gP wx.heap.size wx y m)∧Hid (Fit n)∧Hid (Fit m)∧Hid (Nat.gcd n m=Nat.gcd a b)∧Hid (Below w.heap.size w wx)) (fun _ y wx=>valN wx y)
 case atStart=>exact ⟨a,b,HV,HU,FA,FB,ah rfl,ah (Below.refl _ _)⟩
 case round=>
  obtain ⟨n,m,HN,HM,FN,FM,HG,HB⟩:=hrel;obtain ⟨ao,L,cap,rfl,hl⟩:=bC HM.out;by_cases h0:m=0
  ·subst h0;obtain rfl:=(eu hl).1 rfl;clear hl;go_wp2_with fail;go_ret;exact ⟨_,rfl,by have:=HG.out;rw [Nat.gcd_zero_right] at this;rw [←this];exact HN.out,HB.out⟩
  ·have hL:0<L:=Nat.pos_of_ne_zero fun h=>h0 ((eu hl).2 h);have HL:=ah hl;have C:=ah (nG wr.heap.size n m _ _ wr (Nat.le_refl _) FN.out (by omega) HN.out HM.out);clear hl;go_wp2_with fail;refine C.out.mono ?_;rintro e w1 ⟨v1,v2,rfl,hq,hr,hb1⟩;have HR:=ah hr;have yU:=ah ((HM.out.below hb1).more hb1.size);have HB1:=ah (HB.out.trans (hb1.mono HB.out.size));have FR:=ah (FM.out.le (Nat.le_of_lt (Nat.mod_lt n (show 0<m by omega))));have Az:=ah (show Nat.gcd m (n % m)=Nat.gcd a b by rw [←HG.out,Nat.gcd_comm n m,Nat.gcd_rec m n,Nat.gcd_comm]);have HME:=ah (Ka HM.out);clear hq hr hb1 C;go_wp2_with fail;go_roundw
   case rel=>exact ⟨m,n % m,yU,HR,FM,FR,Az,HB1⟩
   case measure=>rw [Ka HR.out,HME.out];exact Nat.mod_lt _ (by omega)
theorem gP.Im {B n g j:Nat} {w:World} {v u c:Value} (h:gP B w v n) (hc:w.cell? ⟨g,j,none⟩=some c) (hn:∀k x,c≠.int k x):gP B (w.setCell ⟨g,j,none⟩ u) v n:=by
 obtain ⟨L,hl,ao,cap,rfl,h1,h2,h3,hx⟩:=h;refine ⟨L,hl,ao,cap,rfl,h1,h2,h3,fun hL=>?_⟩;obtain ⟨b,off,rfl,hlt,hcs⟩:=hx hL;refine ⟨b,off,rfl,hlt,fun i hi=>?_⟩;by_cases he:(⟨g,j,none⟩:Addr)=⟨b,off+i,none⟩
 ·have:=hcs i hi;rw [←he,hc] at this;exact absurd (Option.some.inj this) (hn _ _)
 ·exact (World.cell?_setCell_other _ _ _ _ he).trans (hcs i hi)
theorem gP.dS {B n g:Nat} {w:World} {v u0 u1 u2:Value} {s:Bool} {ao bo:Option Addr} {i j k l:Nat} (h:gP B w v n) (hb:oJ w g (.bool s) (.slice ao i j) (.slice bo k l)):gP B (((w.setCell ⟨g,0,none⟩ u0).setCell ⟨g,1,none⟩ u1).setCell ⟨g,2,none⟩ u2) v n:=by
 have e1:(w.setCell ⟨g,0,none⟩ u0).cell? ⟨g,1,none⟩=some (.slice ao i j):=(World.cell?_setCell_other _ _ _ _ (by simp)).trans hb.c1;have e2:((w.setCell ⟨g,0,none⟩ u0).setCell ⟨g,1,none⟩ u1).cell? ⟨g,2,none⟩=some (.slice bo k l):=(World.cell?_setCell_other _ _ _ _ (by simp)).trans ((World.cell?_setCell_other _ _ _ _ (by simp)).trans hb.c2);exact ((h.Im hb.c0 (by simp)).Im e1 (by simp)).Im e2 (by simp)
theorem I6 (n d:Nat) (s:Bool) (x y:Value) (w:World) (fn:Fit n) (fd:Fit d) (hd:0<d) (hx:gP w.heap.size w x n) (hy:gP w.heap.size w y d) :
  Calls Tryz.prog 100 #[.agg #[.bool s,x,y]] w fun e w'=>∃s' x' y',e=.returned (.agg #[.bool s',x',y'])∧gP w'.heap.size w' x' (n / Nat.gcd d n)∧gP w'.heap.size w' y' (d / Nat.gcd d n)∧s'=(s&&decide (0<n / Nat.gcd d n))∧Below w.heap.size w w':=by
 obtain ⟨ao,La,ac,rfl,_⟩:=bC hx;obtain ⟨bo,Lb,bc,rfl,_⟩:=bC hy;have HX:=ah hx;have HY:=ah hy;have FN:=ah fn;have FD:=ah fd;have HG:=ah (show 0<Nat.gcd d n from Nat.gcd_pos_of_pos_left n hd);have HB:=ah (show Below w.heap.size w ((w.alloc (.cells #[.bool s,.slice ao La ac,.slice bo Lb bc] 99)).alloc (.cells #[.bool false,.slice none 0 0,.slice none 0 0] 99)) from ((Below.refl _ _).alloc (Nat.le_refl _) _).alloc (by simp) _);have HA:=ah (show oJ ((w.alloc (.cells #[.bool s,.slice ao La ac,.slice bo Lb bc] 99)).alloc (.cells #[.bool false,.slice none 0 0,.slice none 0 0] 99)) w.heap.size (.bool s) (.slice ao La ac) (.slice bo Lb bc) from (jN w _ _ _ _).below ((Below.refl _ _).alloc (Nat.le_refl _) _) (by simp));have HR:=ah (show oJ ((w.alloc (.cells #[.bool s,.slice ao La ac,.slice bo Lb bc] 99)).alloc (.cells #[.bool false,.slice none 0 0,.slice none 0 0] 99)) (w.heap.size+1) (.bool false) (.slice none 0 0) (.slice none 0 0) from by simpa using jN (w.alloc (.cells #[.bool s,.slice ao La ac,.slice bo Lb bc] 99)) (.bool false) (.slice none 0 0) (.slice none 0 0) 99);have hsz:w.heap.size+1<((w.alloc (.cells #[.bool s,.slice ao La ac,.slice bo Lb bc] 99)).alloc (.cells #[.bool false,.slice none 0 0,.slice none 0 0] 99)).heap.size:=by simp
 clear hx hy fn fd hd;go_enter Tryz.func100,Tryz.ntmps100;have C1:=ah (Gp d n _ _ ((w.alloc (.cells #[.bool s,.slice ao La ac,.slice bo Lb bc] 99)).alloc (.cells #[.bool false,.slice none 0 0,.slice none 0 0] 99)) FD.out FN.out ((HY.out.below HB.out).more HB.out.size) ((HX.out.below HB.out).more HB.out.size));generalize hg:Nat.gcd d n=g at *;clear hg;go_wp2_with fail;refine C1.out.mono ?_;rintro e w2 ⟨v3,rfl,xB,hb3⟩;obtain ⟨go,Lg,gc,rfl,_⟩:=bC xB;have HG2:=ah xB;have hs2:=hb3.size;have HB2:=ah (HB.out.trans (hb3.mono HB.out.size));have HA2:=ah (HA.out.below hb3 (by omega));have HR2:=ah (HR.out.below hb3 (by omega));clear xB hb3 C1 HA HR HB;have C2:=ah (nG w2.heap.size n g _ _ w2 (Nat.le_refl _) FN.out HG.out ((HX.out.below HB2.out).more HB2.out.size) HG2.out);have a0:=HA2.out.c0;have a1:=HA2.out.c1;have a2:=HA2.out.c2;go_wp2_with fail;refine C2.out.mono ?_;rintro e w3 ⟨v4,v5,rfl,hn4,hn5,hb3⟩;obtain ⟨co,Lc,cc,rfl,hlc⟩:=bC hn4;obtain ⟨eo,Le,ec,rfl,_⟩:=bC hn5;have HN3:=ah hn4;have HLC:=ah hlc;have hs3:=hb3.size;have HB3:=ah (HB2.out.trans (hb3.mono HB2.out.size));have HA3:=ah (HA2.out.below hb3 (by omega));have HR3:=ah (HR2.out.below hb3 (by omega));have HG3:=ah ((HG2.out.below hb3).more hb3.size);clear hn4 hn5 hb3 hlc C2 HA2 HR2 HG2 a0 a1 a2 HB2;have C3:=ah (nG w3.heap.size d g _ _ w3 (Nat.le_refl _) FD.out HG.out ((HY.out.below HB3.out).more HB3.out.size) HG3.out);have a0:=HA3.out.c0;have a1:=HA3.out.c1;have a2:=HA3.out.c2;go_wp2_with fail;refine C3.out.mono ?_;rintro e w4 ⟨v6,v7,rfl,Je,hn7,hb4⟩;obtain ⟨ddo,Ld,dc,rfl,_⟩:=bC Je;obtain ⟨fo,Lf,fc,rfl,_⟩:=bC hn7;have HD4:=ah Je;have HN4:=ah ((HN3.out.below hb4).more hb4.size);have hs4:=hb4.size;have pU:=ah (HB3.out.trans (hb4.mono HB3.out.size));have HA4:=ah (HA3.out.below hb4 (by omega));have HR4:=ah (HR3.out.below hb4 (by omega));clear Je hn7 hb4 C3 HA3 HR3 HG3 HN3 a0 a1 a2 HB3;have a0:=HA4.out.c0;obtain ⟨x0,x1,x2,y0,y1,y2⟩:=HR4.out
 cases s with
 | false=>
  have HZ:=ah True.intro;go_wp2_with fail
  ·refine bodyPost_ret (v:=.agg #[.bool false,.slice co Lc cc,.slice ddo Ld dc]) (by simp [results,Tryz.results100,go_sem,x0,x1,x2]) rfl ⟨false,_,_,rfl,?_,?_,by simp [HZ.out],bN pU.out (by omega)⟩
   ·rw [dW];exact HN4.out.dS HR4.out
   ·rw [dW];exact HD4.out.dS HR4.out
 | true=>
  by_cases hz:n / g=0
  ·have HZ:=ah hz;have hl0:Lc=0:=(eu HLC.out).1 hz;subst hl0;clear hz;go_wp2_with fail;refine bodyPost_ret (v:=.agg #[.bool false,.slice co 0 cc,.slice ddo Ld dc]) (by simp [results,Tryz.results100,go_sem,x0,x1,x2]) rfl ⟨false,_,_,rfl,?_,?_,by simp [HZ.out],bN pU.out (by omega)⟩
   ·rw [dW];exact HN4.out.dS HR4.out
   ·rw [dW];exact HD4.out.dS HR4.out
  ·have HZ:=ah (Nat.pos_of_ne_zero hz);have hl0:0<Lc:=Nat.pos_of_ne_zero fun h=>hz ((eu HLC.out).2 h);clear hz;go_wp2_with fail;refine bodyPost_ret (v:=.agg #[.bool true,.slice co Lc cc,.slice ddo Ld dc]) (by simp [results,Tryz.results100,go_sem,x0,x1,x2]) rfl ⟨true,_,_,rfl,?_,?_,by simp [HZ.out],bN pU.out (by omega)⟩
   ·rw [dW];exact HN4.out.dS HR4.out
   ·rw [dW];exact HD4.out.dS HR4.out
theorem sg_low {n d:Nat} (s:Bool) (hd:0<d):sg (s&&decide (0<n / Nat.gcd d n)) (n / Nat.gcd d n)*(d:Int)=sg s n*((d / Nat.gcd d n:Nat):Int)∧n / Nat.gcd d n≤n∧0<d / Nat.gcd d n∧d / Nat.gcd d n≤d:=by
 have hg:0<Nat.gcd d n:=Nat.gcd_pos_of_pos_left n hd;refine ⟨?_,Nat.div_le_self _ _,Nat.div_pos (Nat.le_of_dvd hd (Nat.gcd_dvd_left d n)) hg,Nat.div_le_self _ _⟩;have h1:=Nat.div_mul_cancel (Nat.gcd_dvd_right d n);have h2:=Nat.div_mul_cancel (Nat.gcd_dvd_left d n);generalize Nat.gcd d n=g at *;generalize n / g=a at *;generalize d / g=b at *;subst h1;subst h2;by_cases ha:a=0
 ·subst ha;cases s<;>simp [sg]
 ·have hp:decide (0<a)=true:=decide_eq_true (by omega);rw [hp,Bool.and_true];cases s<;>simp only [sg]<;>push_cast<;>grind
theorem iG (n d:Nat) (s:Bool) (x y:Value) (w:World) (fn:Fit n) (fd:Fit d) (hd:0<d) (hx:gP w.heap.size w x n) (hy:gP w.heap.size w y d) :
  Calls Tryz.prog 80 #[.agg #[.bool s,x,y]] w fun e w'=>∃s' x' y' n' d',e=.returned (.agg #[.bool s',x',y'])∧gP w'.heap.size w' x' n'∧gP w'.heap.size w' y' d'∧sg s' n'*(d:Int)=sg s n*(d':Int)∧n'≤n∧0<d'∧d'≤d∧Below w.heap.size w w':=by
 obtain ⟨ao,La,ac,rfl,hla⟩:=bC hx;obtain ⟨bo,Lb,bc,rfl,hlb⟩:=bC hy;have hLa:La≤20:=rY hla fn;have hLb:Lb≤20:=rY hlb fd;have HX:=ah hx;have HY:=ah hy;have FN:=ah fn;have FD:=ah fd;have HD:=ah hd;have HB:=ah (show Below w.heap.size w ((w.alloc (.cells #[.bool s,.slice ao La ac,.slice bo Lb bc] 99)).alloc (.cells #[.bool false,.slice none 0 0,.slice none 0 0] 99)) from ((Below.refl _ _).alloc (Nat.le_refl _) _).alloc (by simp) _);have HR:=ah (show oJ ((w.alloc (.cells #[.bool s,.slice ao La ac,.slice bo Lb bc] 99)).alloc (.cells #[.bool false,.slice none 0 0,.slice none 0 0] 99)) (w.heap.size+1) (.bool false) (.slice none 0 0) (.slice none 0 0) from by simpa using jN (w.alloc (.cells #[.bool s,.slice ao La ac,.slice bo Lb bc] 99)) (.bool false) (.slice none 0 0) (.slice none 0 0) 99);clear hx hy fn fd hla hlb hd;by_cases hs:La+Lb<12
 ·go_enter Tryz.func80,Tryz.ntmps80;go_wp2_with fail;exact bodyPost_ret (v:=.agg #[.bool s,.slice ao La ac,.slice bo Lb bc]) (by simp [results,Tryz.results80,go_sem]) rfl ⟨s,_,_,n,d,rfl,(HX.out.below (by go_grown)).more (by simp<;>omega),(HY.out.below (by go_grown)).more (by simp<;>omega),rfl,Nat.le_refl _,HD.out,Nat.le_refl _,by go_grown⟩
 ·have C:=ah (I6 n d s _ _ ((w.alloc (.cells #[.bool s,.slice ao La ac,.slice bo Lb bc] 99)).alloc (.cells #[.bool false,.slice none 0 0,.slice none 0 0] 99)) FN.out FD.out HD.out ((HX.out.below HB.out).more HB.out.size) ((HY.out.below HB.out).more HB.out.size));have hsz:w.heap.size+1<((w.alloc (.cells #[.bool s,.slice ao La ac,.slice bo Lb bc] 99)).alloc (.cells #[.bool false,.slice none 0 0,.slice none 0 0] 99)).heap.size:=by simp
  go_enter Tryz.func80,Tryz.ntmps80;go_wp2_with fail;refine C.out.mono ?_;rintro e w2 ⟨s',x',y',rfl,hx2,hy2,hs',hb2⟩;obtain ⟨co,Lc,cc,rfl,_⟩:=bC hx2;obtain ⟨ddo,Ld,dc,rfl,_⟩:=bC hy2;have HX2:=ah hx2;have HY2:=ah hy2;have HB2:=ah (HB.out.trans (hb2.mono HB.out.size));have HR2:=ah (HR.out.below hb2 hsz);have HS:=ah hs';have hs2:=hb2.size;clear hx2 hy2 hb2 hs' C HB HR;obtain ⟨x0,x1,x2,y0,y1,y2⟩:=HR2.out;go_wp2_with fail;obtain ⟨k1,k2,k3,k4⟩:=sg_low (n:=n) s HD.out;refine bodyPost_ret (v:=.agg #[.bool s',.slice co Lc cc,.slice ddo Ld dc]) (by simp [results,Tryz.results80,go_sem,x0,x1,x2]) rfl ⟨s',_,_,_,_,rfl,?_,?_,by rw [HS.out];exact k1,k2,k3,k4,bN HB2.out (by omega)⟩
  ·rw [dW];exact HX2.out.dS HR2.out
  ·rw [dW];exact HY2.out.dS HR2.out
def Es (P:Int) (D:Nat) (w:World) (e:Ending) (w':World):Prop:=∃v p d,e=.returned v∧sM w'.heap.size w' v p d∧p*(D:Int)=P*(d:Int)∧p.natAbs≤P.natAbs∧0<d∧d≤D∧Below w.heap.size w w'
theorem EN (B na nb da db:Nat) (s t:Bool) (x y z u:Value) (w:World) (hB:B≤w.heap.size) (h1:Fit na) (h2:Fit da) (h3:Fit nb) (h4:Fit db) (h5:Fit (na*nb)) (h6:Fit (da*db)) (h7:0<da*db)
  (hx:gP B w x na) (hy:gP B w y da) (hz:gP B w z nb) (hu:gP B w u db):Calls Tryz.prog 51 #[.agg #[.bool s,x,y],.agg #[.bool t,z,u]] w (Es (sg (s !=t) (na*nb)) (da*db) w):=by
 have HX:=ah hx;have HY:=ah hy;have HZ:=ah hz;have HU:=ah hu;have FA:=ah (h1);have FC:=ah (h2);have FB:=ah (h3);have FD:=ah (h4);have JY:=ah h5;have HF6:=ah h6;have R3:=ah h7;obtain ⟨ao,La,ac,rfl,_⟩:=bC hx;obtain ⟨co,Lc,cc,rfl,_⟩:=bC hy;obtain ⟨bo,Lb,bc,rfl,_⟩:=bC hz;obtain ⟨dd,Ld,dc,rfl,_⟩:=bC hu;clear hx hy hz hu h1 h2 h3 h4 h5 h6 h7
 have KP:=ah (show ∀W,Below (w.heap.size+1+1) (W3 w s t (.slice ao La ac) (.slice co Lc cc) (.slice bo Lb bc) (.slice dd Ld dc)) W→(Below (w.heap.size+1+1) (W3 w s t (.slice ao La ac) (.slice co Lc cc) (.slice bo Lb bc) (.slice dd Ld dc)) W∧W.cell? ⟨w.heap.size,0,none⟩=some (.bool s)∧W.cell? ⟨w.heap.size,1,none⟩=some (.slice ao La ac)∧W.cell? ⟨w.heap.size,2,none⟩=some (.slice co Lc cc)∧W.cell? ⟨w.heap.size+1,0,none⟩=some (.bool t)∧W.cell? ⟨w.heap.size+1,1,none⟩=some (.slice bo Lb bc)∧W.cell? ⟨w.heap.size+1,2,none⟩=some (.slice dd Ld dc)) from fun W hW=>by
  have a:=(W3_a w s t (.slice ao La ac) (.slice co Lc cc) (.slice bo Lb bc) (.slice dd Ld dc)).below hW (by omega);have b:=(W3_b w s t (.slice ao La ac) (.slice co Lc cc) (.slice bo Lb bc) (.slice dd Ld dc)).below hW (by omega);exact ⟨hW,a.c0,a.c1,a.c2,b.c0,b.c1,b.c2⟩)
 have KR:=ah (show ∀W,Below (w.heap.size+1+1+1) (W3 w s t (.slice ao La ac) (.slice co Lc cc) (.slice bo Lb bc) (.slice dd Ld dc)) W→oJ W (w.heap.size+1+1) (.bool false) (.slice none 0 0) (.slice none 0 0) from fun W hW=>
  (W3_r w s t (.slice ao La ac) (.slice co Lc cc) (.slice bo Lb bc) (.slice dd Ld dc)).below hW (by omega))
 have KB:=ah (show ∀W,Below (w.heap.size+1+1+1) (W3 w s t (.slice ao La ac) (.slice co Lc cc) (.slice bo Lb bc) (.slice dd Ld dc)) W→Below w.heap.size w W∧(w.heap.size+1+1+1)≤W.heap.size from fun W hW=>by
  have:=hW.size;rw [yS] at this;exact ⟨(vR w s t _ _ _ _).trans (hW.mono (by omega)),this⟩)
 have T1:=ah (show ∀W,Below (w.heap.size+1+1+1) (W3 w s t (.slice ao La ac) (.slice co Lc cc) (.slice bo Lb bc) (.slice dd Ld dc)) W→Calls Tryz.prog 78 #[.slice ao La ac,.slice bo Lb bc] W (fun e W1=>GN (w.heap.size+1+1) (na*nb) W e W1∧Below (w.heap.size+1+1+1) (W3 w s t (.slice ao La ac) (.slice co Lc cc) (.slice bo Lb bc) (.slice dd Ld dc)) W1) from fun W hS=>by
  obtain ⟨hb,hs⟩:=KB.out W hS;refine (jQ B _ _ _ _ W (by omega) FA.out FB.out (HX.out.below (hb.mono hB)) (HZ.out.below (hb.mono hB))).mono ?_;intro e W1 hN;have hT:=qx (g:=w.heap.size+1+1) hN (by omega);obtain ⟨_,_,_,_,_,h4⟩:=id hN;exact ⟨hT,hS.trans (h4.mono hs)⟩)
 have T2:=ah (show ∀W,Below (w.heap.size+1+1+1) (W3 w s t (.slice ao La ac) (.slice co Lc cc) (.slice bo Lb bc) (.slice dd Ld dc)) W→Calls Tryz.prog 78 #[.slice co Lc cc,.slice dd Ld dc] W (fun e W1=>GN (w.heap.size+1+1) (da*db) W e W1∧Below (w.heap.size+1+1+1) (W3 w s t (.slice ao La ac) (.slice co Lc cc) (.slice bo Lb bc) (.slice dd Ld dc)) W1) from fun W hS=>by
  obtain ⟨hb,hs⟩:=KB.out W hS;refine (jQ B _ _ _ _ W (by omega) FC.out FD.out (HY.out.below (hb.mono hB)) (HU.out.below (hb.mono hB))).mono ?_;intro e W1 hN;have hT:=qx (g:=w.heap.size+1+1) hN (by omega);obtain ⟨_,_,_,_,_,h4⟩:=id hN;exact ⟨hT,hS.trans (h4.mono hs)⟩)
 clear HX HY HZ HU FA FB FC FD;go_enter Tryz.func51,Tryz.ntmps51;go_wp2_with fail;have hw0:Below (w.heap.size+1+1+1) (W3 w s t (.slice ao La ac) (.slice co Lc cc) (.slice bo Lb bc) (.slice dd Ld dc)) (World.drew (((w.alloc (.cells #[.bool s,.slice ao La ac,.slice co Lc cc] 99)).alloc (.cells #[.bool t,.slice bo Lb bc,.slice dd Ld dc] 99)).alloc (.cells #[.bool false,.slice none 0 0,.slice none 0 0] 99))):=(Below.refl _ _).drew
 go_region_held3 (fun W=>Below (w.heap.size+1+1) (W3 w s t (.slice ao La ac) (.slice co Lc cc) (.slice bo Lb bc) (.slice dd Ld dc)) W∧W.cell? ⟨w.heap.size,0,none⟩=some (.bool s)∧W.cell? ⟨w.heap.size,1,none⟩=some (.slice ao La ac)∧W.cell? ⟨w.heap.size,2,none⟩=some (.slice co Lc cc)∧W.cell? ⟨w.heap.size+1,0,none⟩=some (.bool t)∧W.cell? ⟨w.heap.size+1,1,none⟩=some (.slice bo Lb bc)∧W.cell? ⟨w.heap.size+1,2,none⟩=some (.slice dd Ld dc))
  (first | exact KP.out _ (by assumption) | exact KP.out _ ((Below.refl _ _).drew) | exact KP.out _ (bN hv3 (Nat.le_refl _)))
  (first
   | (go_at_call 78;((with_reducible refine (T1.out _ (by assumption)).mono ?_);rintro e W1 ⟨⟨ao1,L1,cap1,rfl,hn1,ho1,hb1⟩,hw1⟩;have Hw:=ah hn1;have mO:=ah ho1;have HB1:=ah hb1;have hv1:=hw1.mono (Nat.le_succ (w.heap.size+1+1));clear hn1 ho1 hb1))
   | (go_at_call 78;((with_reducible refine (T2.out _ (by assumption)).mono ?_);rintro e W2 ⟨⟨Ry,L2,cap2,rfl,hn2,ho2,hb2⟩,hw2⟩;have uU:=ah hn2;have nT:=ah ho2;have HB2:=ah hb2;have hv2:=hw2.mono (Nat.le_succ (w.heap.size+1+1));clear hn2 ho2 hb2))
   | (go_at_call 80;first
     | (have yU:=ah (jg Hw.out HB2.out);refine (iG _ _ _ _ _ _ JY.out HF6.out R3.out yU.out uU.out).mono ?_;rintro e W3 ⟨s3,x3,y3,n3,d3,rfl,xB,hd3,k1,k2,k3,k4,hb3⟩;obtain ⟨Ej,L3,nI,rfl,-⟩:=bC xB;obtain ⟨bo3,M3,Rt,rfl,-⟩:=bC hd3;have HP1:=ah xB;have G8:=ah hd3;have HK:=ah (And.intro k1 (And.intro k2 (And.intro k3 k4)));clear xB hd3 k1 k2 k3 k4;have hw3:=hw2.trans (hb3.mono (KB.out _ hw2).2);have hv3:=hw3.mono (Nat.le_succ (w.heap.size+1+1));obtain ⟨r0,r1,r2,r3,r4,r5⟩:=KR.out _ hw3;clear hb3)
     | (have HM2:=ah (jg uU.out HB1.out);refine (iG _ _ _ _ _ _ JY.out HF6.out R3.out Hw.out HM2.out).mono ?_;rintro e W3 ⟨s3,x3,y3,n3,d3,rfl,xB,hd3,k1,k2,k3,k4,hb3⟩;obtain ⟨Ej,L3,nI,rfl,-⟩:=bC xB;obtain ⟨bo3,M3,Rt,rfl,-⟩:=bC hd3;have HP1:=ah xB;have G8:=ah hd3;have HK:=ah (And.intro k1 (And.intro k2 (And.intro k3 k4)));clear xB hd3 k1 k2 k3 k4;have hw3:=hw1.trans (hb3.mono (KB.out _ hw1).2);have hv3:=hw3.mono (Nat.le_succ (w.heap.size+1+1));obtain ⟨r0,r1,r2,r3,r4,r5⟩:=KR.out _ hw3;clear hb3)
     | fail)
   | fail)
 all_goals
  have HW3:=ah (KB.out _ hw3);have HR3:=ah (KR.out _ hw3);go_wp2
  refine bodyPost_ret (v:=.agg #[.bool s3,.slice Ej L3 nI,.slice bo3 M3 Rt]) (by simp [results,Tryz.results51,go_sem,r0,r1,r2]) rfl ⟨_,_,_,rfl,?_,HK.out.1,by rw [fu,fu];exact HK.out.2.1,HK.out.2.2.1,HK.out.2.2.2,bN HW3.out.1 (by omega)⟩;rw [dW];exact qC (HP1.out.dS HR3.out) (G8.out.dS HR3.out)
theorem IL (B na nb da db:Nat) (s t:Bool) (x y z u:Value) (w:World) (hB:B≤w.heap.size) (h1:Fit na) (h2:Fit da) (h3:Fit nb) (h4:Fit db) (h5:Fit (na*db)) (h6:Fit (da*nb)) (h7:0<da*nb)
  (hx:gP B w x na) (hy:gP B w y da) (hz:gP B w z nb) (hu:gP B w u db):Calls Tryz.prog 83 #[.agg #[.bool s,x,y],.agg #[.bool t,z,u]] w (Es (sg (s !=t) (na*db)) (da*nb) w):=by
 have HX:=ah hx;have HY:=ah hy;have HZ:=ah hz;have HU:=ah hu;have FA:=ah (h1);have FC:=ah (h2);have FB:=ah (h3);have FD:=ah (h4);have JY:=ah h5;have HF6:=ah h6;have R3:=ah h7;obtain ⟨ao,La,ac,rfl,_⟩:=bC hx;obtain ⟨co,Lc,cc,rfl,_⟩:=bC hy;obtain ⟨bo,Lb,bc,rfl,_⟩:=bC hz;obtain ⟨dd,Ld,dc,rfl,_⟩:=bC hu;clear hx hy hz hu h1 h2 h3 h4 h5 h6 h7
 have KP:=ah (show ∀W,Below (w.heap.size+1+1) (W3 w s t (.slice ao La ac) (.slice co Lc cc) (.slice bo Lb bc) (.slice dd Ld dc)) W→(Below (w.heap.size+1+1) (W3 w s t (.slice ao La ac) (.slice co Lc cc) (.slice bo Lb bc) (.slice dd Ld dc)) W∧W.cell? ⟨w.heap.size,0,none⟩=some (.bool s)∧W.cell? ⟨w.heap.size,1,none⟩=some (.slice ao La ac)∧W.cell? ⟨w.heap.size,2,none⟩=some (.slice co Lc cc)∧W.cell? ⟨w.heap.size+1,0,none⟩=some (.bool t)∧W.cell? ⟨w.heap.size+1,1,none⟩=some (.slice bo Lb bc)∧W.cell? ⟨w.heap.size+1,2,none⟩=some (.slice dd Ld dc)) from fun W hW=>by
  have a:=(W3_a w s t (.slice ao La ac) (.slice co Lc cc) (.slice bo Lb bc) (.slice dd Ld dc)).below hW (by omega);have b:=(W3_b w s t (.slice ao La ac) (.slice co Lc cc) (.slice bo Lb bc) (.slice dd Ld dc)).below hW (by omega);exact ⟨hW,a.c0,a.c1,a.c2,b.c0,b.c1,b.c2⟩)
 have KR:=ah (show ∀W,Below (w.heap.size+1+1+1) (W3 w s t (.slice ao La ac) (.slice co Lc cc) (.slice bo Lb bc) (.slice dd Ld dc)) W→oJ W (w.heap.size+1+1) (.bool false) (.slice none 0 0) (.slice none 0 0) from fun W hW=>
  (W3_r w s t (.slice ao La ac) (.slice co Lc cc) (.slice bo Lb bc) (.slice dd Ld dc)).below hW (by omega))
 have KB:=ah (show ∀W,Below (w.heap.size+1+1+1) (W3 w s t (.slice ao La ac) (.slice co Lc cc) (.slice bo Lb bc) (.slice dd Ld dc)) W→Below w.heap.size w W∧(w.heap.size+1+1+1)≤W.heap.size from fun W hW=>by
  have:=hW.size;rw [yS] at this;exact ⟨(vR w s t _ _ _ _).trans (hW.mono (by omega)),this⟩)
 have T1:=ah (show ∀W,Below (w.heap.size+1+1+1) (W3 w s t (.slice ao La ac) (.slice co Lc cc) (.slice bo Lb bc) (.slice dd Ld dc)) W→Calls Tryz.prog 78 #[.slice ao La ac,.slice dd Ld dc] W (fun e W1=>GN (w.heap.size+1+1) (na*db) W e W1∧Below (w.heap.size+1+1+1) (W3 w s t (.slice ao La ac) (.slice co Lc cc) (.slice bo Lb bc) (.slice dd Ld dc)) W1) from fun W hS=>by
  obtain ⟨hb,hs⟩:=KB.out W hS;refine (jQ B _ _ _ _ W (by omega) FA.out FD.out (HX.out.below (hb.mono hB)) (HU.out.below (hb.mono hB))).mono ?_;intro e W1 hN;have hT:=qx (g:=w.heap.size+1+1) hN (by omega);obtain ⟨_,_,_,_,_,h4⟩:=id hN;exact ⟨hT,hS.trans (h4.mono hs)⟩)
 have T2:=ah (show ∀W,Below (w.heap.size+1+1+1) (W3 w s t (.slice ao La ac) (.slice co Lc cc) (.slice bo Lb bc) (.slice dd Ld dc)) W→Calls Tryz.prog 78 #[.slice co Lc cc,.slice bo Lb bc] W (fun e W1=>GN (w.heap.size+1+1) (da*nb) W e W1∧Below (w.heap.size+1+1+1) (W3 w s t (.slice ao La ac) (.slice co Lc cc) (.slice bo Lb bc) (.slice dd Ld dc)) W1) from fun W hS=>by
  obtain ⟨hb,hs⟩:=KB.out W hS;refine (jQ B _ _ _ _ W (by omega) FC.out FB.out (HY.out.below (hb.mono hB)) (HZ.out.below (hb.mono hB))).mono ?_;intro e W1 hN;have hT:=qx (g:=w.heap.size+1+1) hN (by omega);obtain ⟨_,_,_,_,_,h4⟩:=id hN;exact ⟨hT,hS.trans (h4.mono hs)⟩)
 clear HX HY HZ HU FA FB FC FD;go_enter Tryz.func83,Tryz.ntmps83;go_wp2_with fail;have hw0:Below (w.heap.size+1+1+1) (W3 w s t (.slice ao La ac) (.slice co Lc cc) (.slice bo Lb bc) (.slice dd Ld dc)) (World.drew (((w.alloc (.cells #[.bool s,.slice ao La ac,.slice co Lc cc] 99)).alloc (.cells #[.bool t,.slice bo Lb bc,.slice dd Ld dc] 99)).alloc (.cells #[.bool false,.slice none 0 0,.slice none 0 0] 99))):=(Below.refl _ _).drew
 go_region_held3 (fun W=>Below (w.heap.size+1+1) (W3 w s t (.slice ao La ac) (.slice co Lc cc) (.slice bo Lb bc) (.slice dd Ld dc)) W∧W.cell? ⟨w.heap.size,0,none⟩=some (.bool s)∧W.cell? ⟨w.heap.size,1,none⟩=some (.slice ao La ac)∧W.cell? ⟨w.heap.size,2,none⟩=some (.slice co Lc cc)∧W.cell? ⟨w.heap.size+1,0,none⟩=some (.bool t)∧W.cell? ⟨w.heap.size+1,1,none⟩=some (.slice bo Lb bc)∧W.cell? ⟨w.heap.size+1,2,none⟩=some (.slice dd Ld dc))
  (first | exact KP.out _ (by assumption) | exact KP.out _ ((Below.refl _ _).drew) | exact KP.out _ (bN hv3 (Nat.le_refl _)))
  (first
   | (go_at_call 78;((with_reducible refine (T1.out _ (by assumption)).mono ?_);rintro e W1 ⟨⟨ao1,L1,cap1,rfl,hn1,ho1,hb1⟩,hw1⟩;have Hw:=ah hn1;have mO:=ah ho1;have HB1:=ah hb1;have hv1:=hw1.mono (Nat.le_succ (w.heap.size+1+1));clear hn1 ho1 hb1))
   | (go_at_call 78;((with_reducible refine (T2.out _ (by assumption)).mono ?_);rintro e W2 ⟨⟨Ry,L2,cap2,rfl,hn2,ho2,hb2⟩,hw2⟩;have uU:=ah hn2;have nT:=ah ho2;have HB2:=ah hb2;have hv2:=hw2.mono (Nat.le_succ (w.heap.size+1+1));clear hn2 ho2 hb2))
   | (go_at_call 80;first
     | (have yU:=ah (jg Hw.out HB2.out);refine (iG _ _ _ _ _ _ JY.out HF6.out R3.out yU.out uU.out).mono ?_;rintro e W3 ⟨s3,x3,y3,n3,d3,rfl,xB,hd3,k1,k2,k3,k4,hb3⟩;obtain ⟨Ej,L3,nI,rfl,-⟩:=bC xB;obtain ⟨bo3,M3,Rt,rfl,-⟩:=bC hd3;have HP1:=ah xB;have G8:=ah hd3;have HK:=ah (And.intro k1 (And.intro k2 (And.intro k3 k4)));clear xB hd3 k1 k2 k3 k4;have hw3:=hw2.trans (hb3.mono (KB.out _ hw2).2);have hv3:=hw3.mono (Nat.le_succ (w.heap.size+1+1));obtain ⟨r0,r1,r2,r3,r4,r5⟩:=KR.out _ hw3;clear hb3)
     | (have HM2:=ah (jg uU.out HB1.out);refine (iG _ _ _ _ _ _ JY.out HF6.out R3.out Hw.out HM2.out).mono ?_;rintro e W3 ⟨s3,x3,y3,n3,d3,rfl,xB,hd3,k1,k2,k3,k4,hb3⟩;obtain ⟨Ej,L3,nI,rfl,-⟩:=bC xB;obtain ⟨bo3,M3,Rt,rfl,-⟩:=bC hd3;have HP1:=ah xB;have G8:=ah hd3;have HK:=ah (And.intro k1 (And.intro k2 (And.intro k3 k4)));clear xB hd3 k1 k2 k3 k4;have hw3:=hw1.trans (hb3.mono (KB.out _ hw1).2);have hv3:=hw3.mono (Nat.le_succ (w.heap.size+1+1));obtain ⟨r0,r1,r2,r3,r4,r5⟩:=KR.out _ hw3;clear hb3)
     | fail)
   | fail)
 all_goals
  have HW3:=ah (KB.out _ hw3);have HR3:=ah (KR.out _ hw3);go_wp2
  refine bodyPost_ret (v:=.agg #[.bool s3,.slice Ej L3 nI,.slice bo3 M3 Rt]) (by simp [results,Tryz.results83,go_sem,r0,r1,r2]) rfl ⟨_,_,_,rfl,?_,HK.out.1,by rw [fu,fu];exact HK.out.2.1,HK.out.2.2.1,HK.out.2.2.2,bN HW3.out.1 (by omega)⟩;rw [dW];exact qC (HP1.out.dS HR3.out) (G8.out.dS HR3.out)
end Go.Proofs.YtopmdeefcjdadaaGreat
