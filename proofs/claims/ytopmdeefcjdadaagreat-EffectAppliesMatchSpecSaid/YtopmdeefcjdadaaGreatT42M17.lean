import Derived.Test.YtopmdeefcjdadaaGreatT42M00
import Derived.Test.YtopmdeefcjdadaaGreatT42M16
import Derived.Test.YtopmdeefcjdadaaGreatT42M01
import Derived.Test.YtopmdeefcjdadaaGreatT42M10
import Derived.Test.YtopmdeefcjdadaaGreatT42M14
import Derived.Test.YtopmdeefcjdadaaGreatT42M02
set_option linter.unusedVariables false
set_option linter.unusedSimpArgs false
set_option maxRecDepth 100000
set_option maxHeartbeats 32000000
namespace Go.Proofs.YtopmdeefcjdadaaGreat
open Go.RowKit
def qY (wd n d:Int):Int:=if n*1000<wd*d then 1 else 0
def chZ (i k:Int):Int:=IntKind.u64.wrap (IntKind.u64.wrap (wrap64 (wrap64 (wrap64 (1000003*i)+k)+20))*11400714819323198485)
def chX (z:Int):Int:=bits BinOp.xor IntKind.u64 z (z / 536870912)
def oL (i k:Int):Int:=IntKind.u64.wrap (13787848793156543929*chX (chZ i k)) / 281474976710656
theorem tJ (i k:Int):0≤oL i k∧oL i k≤65535:=by
 unfold oL;generalize 13787848793156543929*chX (chZ i k)=x;rw [IntKind.wrap_u64];omega
theorem KH (i k:Int):wrap64 (IntKind.u64.wrap (13787848793156543929*bits BinOp.xor IntKind.u64 (IntKind.u64.wrap (IntKind.u64.wrap (wrap64 (wrap64 (wrap64 (1000003*i)+k)+20))*11400714819323198485)) (IntKind.u64.wrap (IntKind.u64.wrap (wrap64 (wrap64 (wrap64 (1000003*i)+k)+20))*11400714819323198485) / 536870912)) / 281474976710656)=oL i k:=by
 have h:=tJ i k;exact IntWalk.wrap64_in (oL i k) (by omega)
def kg (L:List Stp) (j:Nat):Stp:=L.getD j ⟨0,0,0⟩
def iA (L:List Stp) (p d:Int):Nat→Nat→Int→Int×Int
 | 0,_,_=>(0,1)
 | c+1,j,b=>
  if p<d*(b+(kg L j).hold) then ((kg L j).lv,65535)
  else if p<d*(b+(kg L j).hold+(kg L j).bG) then
   ((d*(kg L j).bG-(p-d*(b+(kg L j).hold)))*(kg L j).lv+(p-d*(b+(kg L j).hold))*(kg L ((j+1) % L.length)).lv,d*(kg L j).bG*65535)
  else iA L p d c (j+1) (b+(kg L j).hold+(kg L j).bG)
theorem BJ {L:List Stp} {p d:Int} {c j:Nat} {b:Int} (h:p<d*(b+(kg L j).hold)):iA L p d (c+1) j b=((kg L j).lv,65535):=by unfold iA;rw [if_pos h]
theorem Ki {L:List Stp} {p d:Int} {c j:Nat} {b:Int} (h:¬p<d*(b+(kg L j).hold)) (h2:p<d*(b+(kg L j).hold+(kg L j).bG)) :
  iA L p d (c+1) j b=((d*(kg L j).bG-(p-d*(b+(kg L j).hold)))*(kg L j).lv+(p-d*(b+(kg L j).hold))*(kg L ((j+1) % L.length)).lv,d*(kg L j).bG*65535):=by unfold iA;rw [if_neg h,if_pos h2]
theorem ET {L:List Stp} {p d:Int} {c j:Nat} {b:Int} (h:¬p<d*(b+(kg L j).hold)) (h2:¬p<d*(b+(kg L j).hold+(kg L j).bG)) :
  iA L p d (c+1) j b=iA L p d c (j+1) (b+(kg L j).hold+(kg L j).bG):=by rw [iA,if_neg h,if_neg h2]
theorem oQ {L:List Stp} {j:Nat} (h:j<L.length):kg L j=L[j]:=by unfold kg;rw [List.getD_eq_getElem?_getD,List.getElem?_eq_getElem h];rfl
def Hq (w:World) (lo:Option Addr) (cap:Nat) (L:List Stp) (kM n d k i:Int) (pb:Nat) (p:Int) (W:World):Prop:=
 (aH W w.heap.size 153 #[.slice lo L.length cap,.int .i64 kM]∧aH W (w.heap.size+1) 123 #[.int .i64 n,.int .i64 d,.int .i64 k,.int .i64 i])∧(aH W (w.heap.size+2) 88 #[.int .u64 0,.int .u64 0,.int .u64 0,.int .u64 0,.int .u64 0,.int .u64 0]∧aH W (w.heap.size+3) 88 #[.int .u64 0,.int .u64 0,.int .u64 0,.int .u64 0,.int .u64 0,.int .u64 0])∧aH W pb 88 #[.int .u64 (hw 0 p),.int .u64 (hw 1 p),.int .u64 (hw 2 p),.int .u64 (hw 3 p),.int .u64 (hw 4 p),.int .u64 (hw 5 p)]∧w.heap.size+4≤pb∧Below w.heap.size w W
section
variable {w:World} {lo:Option Addr} {cap:Nat} {L:List Stp} {kM n d k i:Int} {pb:Nat} {p:Int} {W W':World}
theorem Hq.below (h:Hq w lo cap L kM n d k i pb p W) (hb:Below W.heap.size W W'):Hq w lo cap L kM n d k i pb p W':=by
 obtain ⟨⟨a,b⟩,⟨c,e⟩,f,g,j⟩:=h;exact ⟨⟨a.below hb,b.below hb⟩,⟨c.below hb,e.below hb⟩,f.below hb,g,j.trans (hb.mono j.size)⟩
theorem Hq.fE {g:Nat} (h:Hq w lo cap L kM n d k i pb p W) (hg:W.grownBy W' (some g)) (h1:w.heap.size+4≤g) (h2:g≠pb):Hq w lo cap L kM n d k i pb p W':=by
 obtain ⟨⟨a,b⟩,⟨c,e⟩,f,g',j⟩:=h;exact ⟨⟨a.fE hg (by omega),b.fE hg (by omega)⟩,⟨c.fE hg (by omega),e.fE hg (by omega)⟩,f.fE hg (Ne.symm h2),g',aY j hg j.size (by omega)⟩
theorem Hq.size (h:Hq w lo cap L kM n d k i pb p W):w.heap.size+4≤W.heap.size∧pb<W.heap.size:=by
 obtain ⟨_,⟨_,e⟩,f,g,j⟩:=h;have:=f.lt;omega
theorem Hq.pc (h:Hq w lo cap L kM n d k i pb p W):W.cell? ⟨w.heap.size+1,0,none⟩=some (.int .i64 n)∧W.cell? ⟨w.heap.size+1,1,none⟩=some (.int .i64 d):=⟨h.1.2.cell (i:=0) rfl,h.1.2.cell (i:=1) rfl⟩
theorem Hq.sc (h:Hq w lo cap L kM n d k i pb p W):W.cell? ⟨w.heap.size,0,none⟩=some (.slice lo L.length cap)∧W.cell? ⟨w.heap.size,1,none⟩=some (.int .i64 kM):=⟨h.1.1.cell (i:=0) rfl,h.1.1.cell (i:=1) rfl⟩
theorem Hq.bel (h:Hq w lo cap L kM n d k i pb p W):Below w.heap.size w W:=h.2.2.2.2
end
theorem bJ {W:World} {b:Nat} {p:Int} (h:aH W b 88 #[.int .u64 (hw 0 p),.int .u64 (hw 1 p),.int .u64 (hw 2 p),.int .u64 (hw 3 p),.int .u64 (hw 4 p),.int .u64 (hw 5 p)]):W.cell? ⟨b,0,none⟩=some (.int .u64 (hw 0 p))∧W.cell? ⟨b,1,none⟩=some (.int .u64 (hw 1 p))∧W.cell? ⟨b,2,none⟩=some (.int .u64 (hw 2 p))∧W.cell? ⟨b,3,none⟩=some (.int .u64 (hw 3 p))∧W.cell? ⟨b,4,none⟩=some (.int .u64 (hw 4 p))∧W.cell? ⟨b,5,none⟩=some (.int .u64 (hw 5 p)):=⟨h.cell (i:=0) rfl,h.cell (i:=1) rfl,h.cell (i:=2) rfl,h.cell (i:=3) rfl,h.cell (i:=4) rfl,h.cell (i:=5) rfl⟩
theorem oP {W:World} {b:Nat} {x y z:Int} (h:aH W b 109 #[.int .i64 x,.int .i64 y,.int .i64 z]):W.cell? ⟨b,0,none⟩=some (.int .i64 x)∧W.cell? ⟨b,1,none⟩=some (.int .i64 y)∧W.cell? ⟨b,2,none⟩=some (.int .i64 z):=⟨h.cell (i:=0) rfl,h.cell (i:=1) rfl,h.cell (i:=2) rfl⟩
theorem Ow (w:World):(zeroValue 109).run Tryz.prog w=.ok (.agg #[.int .i64 0,.int .i64 0,.int .i64 0]) w:=by kernel_rfl
theorem dA {w W:World} {ao:Option Addr} {l:List Stp} (h:eH w.heap.size w ao l) (hb:Below w.heap.size w W):eH W.heap.size W ao l:=fun hne=>by
 obtain ⟨b,off,rfl,h1,h2⟩:=h hne;refine ⟨b,off,rfl,Nat.lt_of_lt_of_le h1 hb.size,fun i hi=>?_⟩;obtain ⟨c0,c1,c2⟩:=h2 i hi;exact ⟨(hb.cell (p:=⟨b,off+i*3,none⟩) h1).trans c0,(hb.cell (p:=⟨b,off+i*3+1,none⟩) h1).trans c1,(hb.cell (p:=⟨b,off+i*3+2,none⟩) h1).trans c2⟩
def AA (aI:Bool) (y d:Int):Int:=if aI=true∧0<y % d then d-y % d else y % d
def j6 (c count:Int):Int:=100*c*1000*count
def mE (c ak aL count clock:Int):Int:=clock*1000*count-ak*aL*100*c
theorem jq (aI:Bool) (y:Int) {d:Int} (h:0<d):0≤AA aI y d∧AA aI y d≤d:=by
 have h1:=Int.emod_nonneg y (show d≠0 by omega);have h2:=Int.emod_lt_of_pos y h;unfold AA;split<;>omega
theorem dJ {a b A B:Int} (h1:0≤a) (h2:0≤b) (h3:a≤A) (h4:b≤B):0≤a*b∧a*b≤A*B:=
 ⟨Int.mul_nonneg h1 h2,Int.le_trans (Int.mul_le_mul_of_nonneg_right h3 h2) (Int.mul_le_mul_of_nonneg_left h4 (by omega))⟩
theorem yN {a b A B:Int} (h1:-A≤a) (h2:a≤A) (h3:0≤b) (h4:b≤B):-(A*B)≤a*b∧a*b≤A*B:=by
 have k1:a*b≤A*b:=Int.mul_le_mul_of_nonneg_right h2 h3;have k2:-A*b≤a*b:=Int.mul_le_mul_of_nonneg_right h1 h3;have k3:A*b≤A*B:=Int.mul_le_mul_of_nonneg_left h4 (by omega);rw [Int.neg_mul] at k2;omega
theorem ig {c count:Int} (c0:1≤c) (c1:c≤3600000) (n0:1≤count) (n1:count≤400):1≤j6 c count∧j6 c count≤144000000000000:=by
 unfold j6;have h1:=dJ (a:=100*c*1000) (b:=count) (A:=360000000000) (B:=400) (by omega) (by omega) (by omega) n1;have h2:100*c*1000*1≤100*c*1000*count:=Int.mul_le_mul_of_nonneg_left n0 (by omega);omega
theorem kX (aK low aD aA ay ak:Int) (aI rel:Bool) (ao:Option Addr) (cap:Nat) (l:List Stp) (aL count clock c:Int) (w:World) (hs:eH w.heap.size w ao l) (hl:l.length≤50) (hall:l.all fV=true) (hc:0≤aA∧aA≤3600000)
  (hcc:aA+dh l=c) (c0:1≤c) (c1:c≤3600000) (n0:1≤count) (n1:count≤400) (i0:0≤aL) (i1:aL≤400) (k0:0≤clock) (k1:clock≤36360000000) (s0:-10000≤ak) (s1:ak≤10000) :
  Calls Tryz.prog 67 #[.agg #[.int .i64 aK,.int .i64 low,.int .i64 aD,.int .i64 aA,.int .i64 ay,.int .i64 ak,.bool aI,.bool rel,.slice ao l.length cap],.int .i64 aL,.int .i64 count,.int .i64 clock] w fun e w'=>e=.returned (.agg #[.int .i64 (AA aI (mE c ak aL count clock) (j6 c count)),.int .i64 (j6 c count),.int .i64 (mE c ak aL count clock / j6 c count),.int .i64 aL])∧Below w.heap.size w w':=by
 have CC:=ah (fun (W:World) (hb:Below w.heap.size w W)=>xG aK low aD aA ay ak aI rel ao cap l W (dA hs hb) hl hall hc);rw [hcc] at CC;have HR:=ah (show ∀D Y:Int,AA aI Y D=if aI=true∧0<Y % D then D-Y % D else Y % D from fun _ _=>rfl);obtain ⟨d0,d1⟩:=ig c0 c1 n0 n1;have b1:=dJ (a:=clock*1000) (b:=count) (A:=36360000000000) (B:=400) (by omega) (by omega) (by omega) n1;have b2:=yN (a:=ak) (b:=aL) (A:=10000) (B:=400) s0 s1 i0 i1;have b3:=yN (a:=ak*aL*100) (b:=c) (A:=400000000) (B:=3600000) (by omega) (by omega) (by omega) c1;have hD:100*c*1000*count=j6 c count:=rfl;have hY:clock*1000*count-ak*aL*100*c=mE c ak aL count clock:=rfl;have e1:IntKind.i64.wrap (100*c)=100*c:=IntWalk.i64_in _ (by omega);have e2:IntKind.i64.wrap (100*c*1000)=100*c*1000:=IntWalk.i64_in _ (by omega);have e3:IntKind.i64.wrap (100*c*1000*count)=j6 c count:=by rw [hD];exact IntWalk.i64_in _ (by omega)
 have e4:IntKind.i64.wrap (clock*1000)=clock*1000:=IntWalk.i64_in _ (by omega);have e5:IntKind.i64.wrap (clock*1000*count)=clock*1000*count:=IntWalk.i64_in _ (by omega);have e6:IntKind.i64.wrap (ak*aL)=ak*aL:=IntWalk.i64_in _ (by omega);have e7:IntKind.i64.wrap (ak*aL*100)=ak*aL*100:=IntWalk.i64_in _ (by omega);have e8:IntKind.i64.wrap (ak*aL*100*c)=ak*aL*100*c:=IntWalk.i64_in _ (by omega);have e9:IntKind.i64.wrap (clock*1000*count-ak*aL*100*c)=mE c ak aL count clock:=by rw [hY];exact IntWalk.i64_in _ (by omega)
 have hyr:-20000000000000000≤mE c ak aL count clock∧mE c ak aL count clock≤20000000000000000:=by omega
 clear hY hD b1 b3;generalize mE c ak aL count clock=Y at *;generalize j6 c count=D at *;have hm:=Int.emod_add_mul_ediv Y D;have hm1:=Int.emod_nonneg Y (show D≠0 by omega);have hm2:=Int.emod_lt_of_pos Y (show 0<D by omega);have hq1:Y / D≤20000000000000000:=Int.le_trans (Int.ediv_le_ediv (by omega) hyr.2) (Int.ediv_le_self _ (by omega))
 have hq0:-20000000000000001≤Y / D:=by
  rw [Int.le_ediv_iff_mul_le (by omega)];omega
 have HFL:=ah (fun W=>Ni Y D W (by omega) (by omega) (by omega) (by omega));have hqd:D*(Y / D)=Y-Y % D:=by omega
 have hqc:Y / D*D=Y-Y % D:=by rw [Int.mul_comm];exact hqd
 generalize Y / D=q at *;generalize hrr:Y % D=r at *;have e10:IntKind.i64.wrap (q*D)=q*D:=by rw [hqc];exact IntWalk.i64_in _ (by omega)
 have e11:IntKind.i64.wrap (Y-q*D)=r:=by rw [hqc,show Y-(Y-r)=r by omega];exact IntWalk.i64_in _ (by omega)
 have e12:IntKind.i64.wrap (D-r)=D-r:=IntWalk.i64_in _ (by omega);clear hm hqd hqc;have HT:=ah (show aH ((w.alloc (.cells #[.int .i64 aK,.int .i64 low,.int .i64 aD,.int .i64 aA,.int .i64 ay,.int .i64 ak,.bool aI,.bool rel,.slice ao l.length cap] 28)).alloc (.cells #[.int .i64 0,.int .i64 0,.int .i64 0,.int .i64 0] 123)) w.heap.size 28 #[.int .i64 aK,.int .i64 low,.int .i64 aD,.int .i64 aA,.int .i64 ay,.int .i64 ak,.bool aI,.bool rel,.slice ao l.length cap] from (aH.new w _ _).alloc _)
 have HP:=ah (show aH ((w.alloc (.cells #[.int .i64 aK,.int .i64 low,.int .i64 aD,.int .i64 aA,.int .i64 ay,.int .i64 ak,.bool aI,.bool rel,.slice ao l.length cap] 28)).alloc (.cells #[.int .i64 0,.int .i64 0,.int .i64 0,.int .i64 0] 123)) (w.heap.size+1) 123 #[.int .i64 0,.int .i64 0,.int .i64 0,.int .i64 0] from by
  have h:=aH.new (w.alloc (.cells #[.int .i64 aK,.int .i64 low,.int .i64 aD,.int .i64 aA,.int .i64 ay,.int .i64 ak,.bool aI,.bool rel,.slice ao l.length cap] 28)) #[.int .i64 0,.int .i64 0,.int .i64 0,.int .i64 0] 123;simpa only [World.size_alloc] using h)
 have HB:=ah (show Below w.heap.size w ((w.alloc (.cells #[.int .i64 aK,.int .i64 low,.int .i64 aD,.int .i64 aA,.int .i64 ay,.int .i64 ak,.bool aI,.bool rel,.slice ao l.length cap] 28)).alloc (.cells #[.int .i64 0,.int .i64 0,.int .i64 0,.int .i64 0] 123)) from ((Below.refl _ _).alloc (Nat.le_refl _) _).alloc (by simp) _);have CC1:=ah (CC.out _ HB.out);clear CC hs hall;go_enter Tryz.func67,Tryz.ntmps67;go_wp2_with fail;refine CC1.out.mono ?_;rintro e w2 ⟨rfl,hb⟩;have hsz:w.heap.size+2≤w2.heap.size:=by have:=hb.size;simp at this;omega
 have hlt1:w.heap.size<w2.heap.size:=by omega
 have hlt2:w.heap.size+1<w2.heap.size:=by omega
 have HT2:=ah (HT.out.below hb);have G8:=ah (HP.out.below hb);have HB2:=ah (HB.out.trans (hb.mono (by simp;omega)));clear CC1 hb HT HP HB;have f5:=HT2.out.cell (i:=5) rfl;have f6:=HT2.out.cell (i:=6) rfl;have r0:=G8.out.cell (i:=0) rfl;have r1:=G8.out.cell (i:=1) rfl;have r2:=G8.out.cell (i:=2) rfl;have r3:=G8.out.cell (i:=3) rfl;have rf0:=G8.out.frozen 0;have rf1:=G8.out.frozen 1;have rf2:=G8.out.frozen 2;have rf3:=G8.out.frozen 3;go_wp2_with fail;refine (HFL.out _).mono ?_;rintro e wz ⟨rfl,rfl⟩;cases aI
 ·have HV:=ah (show AA false Y D=r by rw [HR.out,if_neg (by simp),hrr]);clear hrr;go_wp2_with fail;exact bodyPost_ret (v:=.agg #[.int .i64 r,.int .i64 D,.int .i64 q,.int .i64 aL]) (by simp [results,Tryz.results67,go_sem,r0,r1,r2,r3,hlt2,World.cell?_alloc_past]) rfl ⟨by rw [HV.out],by repeat (first | exact HB2.out | refine Below.setCell ?_ (by simp;try omega) _ | refine Below.alloc ?_ (by simp;try omega) _)⟩
 ·by_cases hr0:0<r
  ·have HV:=ah (show AA true Y D=D-r by rw [HR.out,hrr,if_pos ⟨rfl,hr0⟩]);clear hrr;go_wp2_with fail;exact bodyPost_ret (v:=.agg #[.int .i64 (D-r),.int .i64 D,.int .i64 q,.int .i64 aL]) (by simp [results,Tryz.results67,go_sem,r0,r1,r2,r3,hlt2,World.cell?_alloc_past]) rfl ⟨by rw [HV.out],by repeat (first | exact HB2.out | refine Below.setCell ?_ (by simp;try omega) _ | refine Below.alloc ?_ (by simp;try omega) _)⟩
  ·have HV:=ah (show AA true Y D=r by rw [HR.out,hrr,if_neg (fun h=>hr0 h.2)]);have hr1:decide (0<r)=false:=by simpa using hr0
   clear hrr;go_wp2_with fail;exact bodyPost_ret (v:=.agg #[.int .i64 r,.int .i64 D,.int .i64 q,.int .i64 aL]) (by simp [results,Tryz.results67,go_sem,r0,r1,r2,r3,hlt2,World.cell?_alloc_past]) rfl ⟨by rw [HV.out],by repeat (first | exact HB2.out | refine Below.setCell ?_ (by simp;try omega) _ | refine Below.alloc ?_ (by simp;try omega) _)⟩
def oK (aK ay:Int) (l:List Stp) (c pn pd pk aL:Int):Int×Int:=
 if aK=1 then (aU pn pd,pd) else if aK=2 then (pn,pd) else if aK=3 then (pd-pn,pd) else if aK=4 then (qY ay pn pd,1)
 else if aK=5 then (aU pn pd*(aU pn pd*(3*pd-2*aU pn pd)),pd*(pd*pd)) else if aK=6 then (oL aL pk,65536) else iA l (pn*c) pd l.length 0 0
def lW (x:Int×Int):Prop:=0≤x.1∧x.1≤x.2∧1≤x.2∧x.2≤1000000000000000000*(1000000000000000000*1000000000000000000)
theorem soft_ok {u d:Int} (h0:0≤u) (h1:u≤d):0≤u*(u*(3*d-2*u))∧u*(u*(3*d-2*u))≤d*(d*d):=by
 refine ⟨Int.mul_nonneg h0 (Int.mul_nonneg h0 (by omega)),?_⟩;obtain ⟨x,rfl⟩:∃x,d=u+x:=⟨d-u,by omega⟩;have hx:0≤x:=by omega
 have e:(u+x)*((u+x)*(u+x))=u*(u*(3*(u+x)-2*u))+(3*(u*(x*x))+x*(x*x)):=by grind
 have h2:0≤u*(x*x):=Int.mul_nonneg h0 (Int.mul_nonneg hx hx);have h3:0≤x*(x*x):=Int.mul_nonneg hx (Int.mul_nonneg hx hx);omega
theorem O7 {L:List Stp} (hL:0<L.length) (hA:∀k (h:k<L.length),(0≤L[k].lv∧L[k].lv≤65535)∧(0≤L[k].hold∧L[k].hold≤3600000)∧0≤L[k].bG∧L[k].bG≤3600000) {p d:Int} (hd:1≤d) (EC:d≤1000000000000000) :
  ∀(c j:Nat) (b:Int),j+c=L.length→lW (iA L p d c j b)
 | 0,j,b,_=>by unfold iA lW;simp
 | c+1,j,b,h=>by
  have hj:j<L.length:=by omega
  have hn:(j+1) % L.length<L.length:=Nat.mod_lt _ hL;obtain ⟨⟨l0,l1⟩,⟨h0,h1⟩,f0,f1⟩:=hA j hj;obtain ⟨⟨m0,m1⟩,_⟩:=hA _ hn;unfold iA;rw [oQ hj,oQ hn];split
  ·unfold lW;simp only;omega
  ·split
   ·rename_i g1 g2
    have hadd:d*(b+L[j].hold+L[j].bG)=d*(b+L[j].hold)+d*L[j].bG:=Int.mul_add _ _ _;have hw:d*L[j].bG≤1000000000000000*3600000:=Int.le_trans (Int.mul_le_mul_of_nonneg_right EC f0) (Int.mul_le_mul_of_nonneg_left f1 (by omega));have hz0:0≤p-d*(b+L[j].hold):=by omega
    have yP:p-d*(b+L[j].hold)<d*L[j].bG:=by omega
    generalize d*L[j].bG=wh at *;generalize p-d*(b+L[j].hold)=zz at *;have k1:0≤(wh-zz)*L[j].lv:=Int.mul_nonneg (by omega) l0;have k2:0≤zz*L[(j+1) % L.length].lv:=Int.mul_nonneg hz0 m0;have k3:(wh-zz)*L[j].lv≤(wh-zz)*65535:=Int.mul_le_mul_of_nonneg_left l1 (by omega);have k4:zz*L[(j+1) % L.length].lv≤zz*65535:=Int.mul_le_mul_of_nonneg_left m1 hz0;unfold lW;simp only;omega
   ·exact O7 hL hA hd EC c (j+1) _ (by omega)
theorem Oz {aK ay:Int} {l:List Stp} {c pn pd pk aL:Int} (hf:1≤aK∧aK≤7) (h7:aK=7→0<l.length) (hall:l.all fV=true) (n0:0≤pn) (n1:pn≤pd) (d0:1≤pd) (d1:pd≤1000000000000000):lW (oK aK ay l c pn pd pk aL):=by
 obtain ⟨p0,p1⟩:=rR n0 n1;have hA:=fun k (h:k<l.length)=>sQ (List.all_eq_true.1 hall _ (List.getElem_mem h));unfold oK;by_cases h:aK=7
 ·subst h;rw [if_neg (by decide),if_neg (by decide),if_neg (by decide),if_neg (by decide),if_neg (by decide),if_neg (by decide)];exact O7 (h7 rfl) hA d0 d1 _ _ _ (by omega)
 by_cases h1:aK=1
 ·rw [if_pos h1];unfold lW;simp only;omega
 rw [if_neg h1];by_cases h2:aK=2
 ·rw [if_pos h2];unfold lW;simp only;omega
 rw [if_neg h2];by_cases h3:aK=3
 ·rw [if_pos h3];unfold lW;simp only;omega
 rw [if_neg h3];by_cases h4:aK=4
 ·rw [if_pos h4];unfold lW qY;simp only;split<;>omega
 rw [if_neg h4];by_cases h5:aK=5
 ·rw [if_pos h5];obtain ⟨s0,s1⟩:=soft_ok p0 p1;have k1:=dJ (a:=pd) (b:=pd) (A:=1000000000000000) (B:=1000000000000000) (by omega) (by omega) (by omega) (by omega);have k2:=dJ (a:=pd) (b:=pd*pd) (A:=1000000000000000) (B:=1000000000000000*1000000000000000) (by omega) k1.1 (by omega) k1.2
  have k3:1≤pd*(pd*pd):=by
   have a1:1*1≤pd*pd:=Int.mul_le_mul d0 d0 (by omega) (by omega);have a2:1*(1*1)≤pd*(pd*pd):=Int.mul_le_mul d0 a1 (by omega) (by omega);omega
  unfold lW;simp only;exact ⟨s0,Int.le_trans s1 (Int.le_refl _),k3,by omega⟩
 rw [if_neg h5,if_pos (by omega)];obtain ⟨c0,c1⟩:=tJ aL pk;unfold lW;simp only;omega
theorem xH {aK low aD aA ay ak:Int} {l:List Stp} (h:dL aK low aD aA ay ak l=0) :
  (1≤aK∧aK≤7)∧(0≤low∧low≤65535)∧(0≤aD∧aD≤65535)∧low≤aD∧(0≤aA∧aA≤3600000)∧(0≤ay∧ay≤1000)∧(-10000≤ak∧ak≤10000)∧l.length≤50∧l.all fV=true∧(aK≠7→l.length=0)∧(aK=7→aA=0):=by
 have e0:1≤aK∧aK≤7:=by
  by_cases c:bW aK 1 7=true
  ·simpa [bW] using c
  ·simp [dL,eT,c] at h
 by_cases f7:aK=7
 ·subst f7;simp only [dL,eT] at h;have fb:bW 7 1 7=true:=by decide
  rw [fb] at h;simp only [Bool.not_true,Bool.false_eq_true,if_false,beq_self_eq_true,Bool.true_and,Bool.not_false,Bool.false_and,Bool.or_false] at h;split at h
  ·omega
  ·rename_i h1
   split at h
   ·omega
   ·rename_i h2
    split at h
    ·omega
    ·rename_i h3
     split at h
     ·omega
     ·split at h
      ·omega
      ·rename_i h5
       split at h
       ·omega
       ·rename_i h6
        simp [bW] at h1 h2 h3 h5 h6;have hc:aA=0:=by omega
        refine ⟨e0,by omega,by omega,by omega,by omega,by omega,by omega,by omega,by simpa using h6,by omega,fun _=>hc⟩
 ·simp only [dL,eT] at h;have fb:bW aK 1 7=true:=by simpa [bW] using e0
  have g7:(aK==7)=false:=by simpa using f7
  rw [fb,g7] at h;simp only [Bool.not_true,Bool.false_eq_true,if_false,Bool.false_and,Bool.or_false,Bool.not_false,Bool.true_and] at h;split at h
  ·omega
  ·rename_i h1
   split at h
   ·omega
   ·rename_i h2
    split at h
    ·omega
    ·rename_i h3
     simp [bW] at h1 h2 h3
     have hl:l.length=0:=by
      have:=h1.2;simpa using this
     have hn:l=[]:=List.length_eq_zero_iff.1 hl;refine ⟨e0,by omega,by omega,by omega,by omega,by omega,by omega,by omega,by rw [hn];rfl,fun _=>hl,fun h=>absurd h f7⟩
def sD (n:Int):Int:=if n<0 then 0 else if 65535<n then 65535 else n
theorem Eb (n:Int):0≤sD n∧sD n≤65535:=by unfold sD;split<;>(try split)<;>omega
theorem vM {N D r:Int} (hD:0<D) (r0:0≤r) (r1:r≤65535) (h1:0<r→r*D≤N) (h2:r<65535→N<(r+1)*D):r=sD (N / D):=by
 unfold sD;by_cases c:N / D<0
 ·rw [if_pos c];by_cases d:0<r
  ·have:=(Int.le_ediv_iff_mul_le hD).2 (h1 d);omega
  ·omega
 ·rw [if_neg c];by_cases d:65535<N / D
  ·rw [if_pos d];by_cases e:r<65535
   ·have:=(Int.ediv_lt_iff_lt_mul hD).2 (h2 e);omega
   ·omega
  ·rw [if_neg d]
   have a1:r≤N / D:=by
    by_cases e:0<r
    ·exact (Int.le_ediv_iff_mul_le hD).2 (h1 e)
    ·omega
   have a2:N / D≤r:=by
    by_cases e:r<65535
    ·have:=(Int.ediv_lt_iff_lt_mul hD).2 (h2 e);omega
    ·omega
   omega
def FY (rel:Bool) (low aD b:Int) (w s:Int×Int):Int:=
 if rel then w.2*s.2*(2*b)+s.1*w.1*(2*(aD-low))+w.2*s.2-s.1*w.2*(aD-low)
 else ((s.2-s.1)*w.2*b+s.1*(w.2*low+w.1*(aD-low)))*2+w.2*s.2
def tT (rel:Bool) (low aD b:Int) (w s:Int×Int):Int:=sD (FY rel low aD b w s / (2*(w.2*s.2)))
theorem PU {low aD b:Int} {w s:Int×Int} {r:Int} (hd:0<w.2*s.2) (r0:0≤r) (r1:r≤65535)
  (h1:0<r→¬w.2*s.2*(2*b)+s.1*w.1*(2*(aD-low))+w.2*s.2<w.2*s.2*(2*r)+s.1*w.2*(aD-low))
  (h2:r<65535→w.2*s.2*(2*b)+s.1*w.1*(2*(aD-low))+w.2*s.2<w.2*s.2*(2*(r+1))+s.1*w.2*(aD-low)):r=tT true low aD b w s:=by
 unfold tT;refine vM (by omega) r0 r1 (fun h=>?_) (fun h=>?_)
 ·have:=h1 h;simp only [FY,if_true];have e:r*(2*(w.2*s.2))=w.2*s.2*(2*r):=by grind
  omega
 ·have:=h2 h;simp only [FY,if_true];have e:(r+1)*(2*(w.2*s.2))=w.2*s.2*(2*(r+1)):=by grind
  omega
theorem PV {low aD b:Int} {w s:Int×Int} {r:Int} (hd:0<w.2*s.2) (r0:0≤r) (r1:r≤65535)
  (h1:0<r→¬((s.2-s.1)*w.2*b+s.1*(w.2*low+w.1*(aD-low)))*2+w.2*s.2<w.2*s.2*(2*r))
  (h2:r<65535→((s.2-s.1)*w.2*b+s.1*(w.2*low+w.1*(aD-low)))*2+w.2*s.2<w.2*s.2*(2*(r+1))):r=tT false low aD b w s:=by
 unfold tT;refine vM (by omega) r0 r1 (fun h=>?_) (fun h=>?_)
 ·have:=h1 h;simp only [FY,Bool.false_eq_true,if_false];have e:r*(2*(w.2*s.2))=w.2*s.2*(2*r):=by grind
  omega
 ·have:=h2 h;simp only [FY,Bool.false_eq_true,if_false];have e:(r+1)*(2*(w.2*s.2))=w.2*s.2*(2*(r+1)):=by grind
  omega
def l6 (aB bP aN aQ t:Int):Int×Int:=
 if aN≠-1∧aN<t then ((if t-aB<bP then t-aB else 1)*(aN+aQ-t),(if t-aB<bP then bP else 1)*aQ) else (if t-aB<bP then t-aB else 1,if t-aB<bP then bP else 1)
def Ar (s:Int×Int):Prop:=0≤s.1∧s.1≤s.2∧1≤s.2∧s.2≤10000000000000000
def Al (x:Run) (t:Int):Bool:=decide (t<x.aB)||(decide (x.aN≠-1)&&decide (x.aN+x.aQ≤t))
theorem Kj {aB bP aN aQ t:Int} (h0:aB≤t) (hi:0≤bP∧bP≤36000000) (ho:0≤aQ∧aQ≤36000000) (hg:aN=-1∨t<aN+aQ):Ar (l6 aB bP aN aQ t):=by
 unfold l6 Ar
 have a:∀n d:Int,0≤n→n≤d→1≤d→d≤36000000→aN≠-1∧aN<t→0≤n*(aN+aQ-t)∧n*(aN+aQ-t)≤d*aQ∧1≤d*aQ∧d*aQ≤10000000000000000:=by
  intro n d n0 n1 d0 d1 hc;have h1:0<aN+aQ-t:=by rcases hg with h | h<;>omega
  have k1:n*(aN+aQ-t)≤d*(aN+aQ-t):=Int.mul_le_mul_of_nonneg_right n1 (by omega);have k2:d*(aN+aQ-t)≤d*aQ:=Int.mul_le_mul_of_nonneg_left (by omega) (by omega);have k3:d*aQ≤36000000*36000000:=dJ (by omega) (by omega) d1 ho.2 |>.2
  have k4:1*1≤d*aQ:=Int.mul_le_mul d0 (by omega) (by omega) (by omega);exact ⟨Int.mul_nonneg n0 (by omega),by omega,by omega,by omega⟩
 by_cases c:aN≠-1∧aN<t
 ·rw [if_pos c];by_cases d:t-aB<bP
  ·simp only [if_pos d];exact a _ _ (by omega) (by omega) (by omega) hi.2 c
  ·simp only [if_neg d];exact a 1 1 (by omega) (by omega) (by omega) (by omega) c
 ·rw [if_neg c];by_cases d:t-aB<bP
  ·simp only [if_pos d];omega
  ·simp only [if_neg d];omega
def pq (e:Eff):Int:=e.aA+dh e.jV
def Ia (e:Eff) (i count clock:Int):Int×Int:=oK e.aK e.ay e.jV (pq e) (AA e.aI (mE (pq e) e.ak i count clock) (j6 (pq e) count)) (j6 (pq e) count) (mE (pq e) e.ak i count clock / j6 (pq e) count) i
def zn (x:Run) (t:Int) (nO:Int×ByteArray→Int) (i:Nat) (k:Int×ByteArray):dM:=
 ⟨k.1,k.2,tT x.ef.rel x.ef.low x.ef.aD (nO k) (Ia x.ef i x.aO.length (mo x.aB x.aJ t)) (l6 x.aB x.bP x.aN x.aQ t)⟩
def ng (x:Run) (t:Int) (nO:Int×ByteArray→Int):List dM:=x.aO.mapIdx (zn x t nO)
def dQ (x:Run) (t:Int) (nO:Int×ByteArray→Int):List dM:=if Al x t then [] else ng x t nO
theorem zu (x:Run) (t:Int) (nO:Int×ByteArray→Int) (k:Nat) (h:k<x.aO.length):(ng x t nO).take (k+1)=(ng x t nO).take k++[zn x t nO k x.aO[k]]:=by
 have h1:k<(ng x t nO).length:=by simpa [ng] using h
 rw [List.take_succ_eq_append_getElem h1];simp [ng]
theorem wN (x:Run) (t:Int) (nO:Int×ByteArray→Int):(ng x t nO).length=x.aO.length:=by simp [ng]
def nS (r:iK) (k:Int×ByteArray):Option Int:=(gL r k.1 k.2.data.toList).map jy.dflt
def oD (r:iK) (l:List dM) (k:Int×ByteArray):Option Int:=match l.reverse.find? (isK k) with
 | some s=>some s.lv
 | none=>nS r k
def qB (r:iK) (l:List dM) (k:Int×ByteArray):Int:=(oD r l k).getD 0
def iM (r:iK) (pre:List (Int×ByteArray)) (k:Int×ByteArray):Int:=if (nS r k).isNone then 8 else if pre.any (fun y=>decide (y=k)) then 6 else 0
def dV (r:iK) (x:Run):Int:=
 if sF (pF x.ef) x.aO≠0 then sF (pF x.ef) x.aO else if bQ (iM r) x.aO 0≠0 then bQ (iM r) x.aO 0 else qV x.aB x.bP x.aN x.aQ x.aJ
theorem Rn (r:iK) (k:Int×ByteArray):(nS r k).isNone=(gL r k.1 k.2.data.toList).isNone:=by unfold nS;cases gL r k.1 k.2.data.toList<;>rfl
theorem mK {r:iK} {x:Run} (h:dV r x=0):pF x.ef=0∧(0<x.aO.length∧x.aO.length≤400)∧(∀k∈x.aO,(nS r k).isSome)∧x.aO.Nodup∧(0≤x.aB∧x.aB≤36000000)∧(0≤x.bP∧x.bP≤36000000)∧(0≤x.aQ∧x.aQ≤36000000)∧(x.aN=-1∨x.aB≤x.aN∧x.aN≤36000000)∧x.aJ.length≤50∧jO x.aB x.aJ:=by
 unfold dV at h;by_cases c:sF (pF x.ef) x.aO=0
 ·rw [if_neg (by simpa using c)] at h;by_cases d:bQ (iM r) x.aO 0=0
  ·rw [if_neg (by simpa using d)] at h
   have h1:pF x.ef=0∧0<x.aO.length∧x.aO.length≤400:=by
    unfold sF fi3 ru dN at c;by_cases e:pF x.ef=0
    ·rw [if_pos e] at c;by_cases f:x.aO.length=0
     ·simp [f] at c
     ·by_cases g:400<x.aO.length
      ·simp [f,g] at c
      ·exact ⟨e,by omega,by omega⟩
    ·rw [if_neg e] at c;exact absurd c e
   have h2:∀k (hk:k<x.aO.length),(nS r x.aO[k]).isSome∧x.aO[k]∉x.aO.take k:=by
    intro k hk;have:=fP _ _ d k hk;unfold iM at this;by_cases e:(nS r x.aO[k]).isNone
    ·rw [if_pos e] at this;cases this
    ·rw [if_neg e] at this;by_cases f:(x.aO.take k).any (fun y=>decide (y=x.aO[k]))=true
     ·rw [if_pos f] at this;cases this
     ·refine ⟨by simpa [Option.isSome_iff_ne_none] using e,fun hin=>f ?_⟩;rw [List.any_eq_true];exact ⟨_,hin,by simp⟩
   have h3:∀n,n≤x.aO.length→(x.aO.take n).Nodup:=by
    intro n
    induction n with
    | zero=>intro _;simp
    | succ n ih=>intro hn;exact (yE _ n (by omega)).2 ⟨ih (by omega),(h2 n (by omega)).2⟩
   have h4:=h3 _ (Nat.le_refl _);rw [List.take_length] at h4;unfold qV at h;cases e:nJ x.aB x.bP x.aN x.aQ
   ·rw [e] at h;by_cases f:(decide (x.aN=-1)&&decide (x.aQ≠0))=true
    ·rw [f] at h;simp at h
    ·have f':(decide (x.aN=-1)&&decide (x.aQ≠0))=false:=by simpa using f
     rw [f'] at h;by_cases g:50<x.aJ.length
     ·rw [if_pos g] at h;simp at h
     ·rw [if_neg g] at h;simp at h;unfold nJ at e;simp only [Bool.or_eq_false_iff,Bool.not_eq_false',Bool.and_eq_false_iff,decide_eq_false_iff_not,Decidable.not_not,nZ] at e;obtain ⟨⟨⟨e1,e2⟩,e3⟩,e4⟩:=e;refine ⟨h1.1,h1.2,fun k hk=>?_,h4,e1,e2,e3,?_,by omega,(Fp _ _).1 h⟩
      ·obtain ⟨j,hj,rfl⟩:=List.getElem_of_mem hk;exact (h2 j hj).1
      ·rcases e4 with e4 | e4
       ·exact .inl e4
       ·exact .inr e4
   ·rw [e] at h;simp at h
  ·rw [if_pos d] at h;exact absurd h d
 ·rw [if_pos c] at h;exact absurd h c
def iR (l:List dM) (s:dM):List dM:=if l.any (isK s.k) then l.map (fun y=>if isK s.k y then s else y) else l++[s]
def Rx (r:iK) (t:Int) (l:List dM) (x:Run):List dM:=(dQ x t (qB r l)).foldl iR l
def oI (r:iK) (xs:List Run) (base:List dM) (t:Int):List dM:=xs.foldl (Rx r t) base
def jF (r:iK):List Run→Int
 | []=>0
 | x::l=>if dV r x≠0 then dV r x else jF r l
theorem zC (r:iK) (l:List Run) (k:Nat) (h:k<l.length):jF r (l.drop k)=if dV r l[k]≠0 then dV r l[k] else jF r (l.drop (k+1)):=by
 rw [List.drop_eq_getElem_cons h];rfl
theorem zA {r:iK} {l:List Run} (h:jF r l=0):∀x∈l,dV r x=0:=by
 induction l with
 | nil=>intro x hx;cases hx
 | cons a l ih=>
  unfold jF at h;by_cases c:dV r a=0
  ·rw [if_neg (by simpa using c)] at h;intro x hx;rcases List.mem_cons.1 hx with rfl | hx
   ·exact c
   ·exact ih h x hx
  ·rw [if_pos c] at h;exact absurd h c
def vN (r:iK) (xs:List Run) (base:List dM) (t:Int):Int:=
 if ru (bR r) (dN (decide (100<xs.length)) 2)≠0 then ru (bR r) (dN (decide (100<xs.length)) 2) else if jF r xs≠0 then jF r xs else ru (dF r base) (dN (!bW t 0 36000000) 1)
def xP (r:iK) (xs:List Run) (base:List dM) (t:Int):List dM:=if vN r xs base t=0 then oI r xs base t else []
end Go.Proofs.YtopmdeefcjdadaaGreat
