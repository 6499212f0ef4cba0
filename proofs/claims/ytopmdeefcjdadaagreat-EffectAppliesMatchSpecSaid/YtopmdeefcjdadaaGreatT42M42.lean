import Derived.Test.YtopmdeefcjdadaaGreatT42M41
set_option maxRecDepth 100000
set_option maxHeartbeats 32000000
namespace Go.Proofs.YtopmdeefcjdadaaGreat
open Go.RowKit
theorem sV {B:Nat} {w:World} {x:Run} {sv kv rv:Value} (h:lY B w x sv kv rv):∃so cO ko dG ro bD,sv=.slice so x.ef.jV.length cO∧kv=.slice ko x.aO.length dG∧rv=.slice ro x.aJ.length bD:=by
 obtain ⟨hsv,hkv,tX⟩:=h;obtain ⟨so,cO,rfl,_,_⟩:=hsv;obtain ⟨ko,dG,rfl,_⟩:=hkv;obtain ⟨ro,bD,rfl,_⟩:=tX;exact ⟨_,_,_,_,_,_,rfl,rfl,rfl⟩
end Go.Proofs.YtopmdeefcjdadaaGreat
namespace Go.Proofs.YtopmdeefcjdadaaGreat
open Go.RowKit
open Go (info_parts)
theorem Lv:(Tryz.prog.info? 42).map (fun i=>(i.zero,i.size,i.bytes))=some (some (.agg #[.int .i64 0,.string ⟨#[]⟩,.int .i64 0]),3,32):=by kernel_rfl
theorem Ii (B:Nat) (v:Value) (n:Nat) (xs:List Value) (w:World) (hB:B≤w.heap.size) (hl:n≤16000) (hxl:xs.length=n*3) (hone:∀u∈xs,u.oneCell'=true) (h1:yH B w v n xs) :
  Calls Tryz.prog 28 #[v] w (CloneO 42 3 w n xs):=by
 obtain ⟨i0,hi,hz0,hz1,hz2⟩:=info_parts Lv;have q22:∀(w:World) (a:Option Addr) (n c n' c':Nat),(binOp .eql 33 (.slice a n c) (.slice none n' c')).run Tryz.prog w=.ok (.bool a.isNone) w:=fun w a n c n' c'=>Lib.run_eql_slice_nil w _ _ a n c n' c' Tryz.underlying33;obtain ⟨ao,cap,rfl,h4⟩:=h1
 cases ao with
 | none=>
  have hl0:n=0:=by
   rcases Nat.eq_zero_or_pos n with h | h
   ·exact h
   ·obtain ⟨b,off,e,_⟩:=h4 h;cases e
  subst hl0;have hx0:xs=[]:=List.eq_nil_of_length_eq_zero (by omega);subst hx0;go_enter Tryz.func28,Tryz.ntmps28;go_wp2
  go_ret;exact ⟨_,rfl,World.ownsRow_nil _ _ _ _,Below.refl _ _⟩
 | some a=>
  have hc:=ah (show ∀j u,xs[j]?=some u→(w.alloc (.cells #[] 42)).cell? (a.add j)=some u by
   intro j u hu
   have hn:0<n:=by
    rcases Nat.eq_zero_or_pos n with h | h
    ·subst h;obtain rfl:xs=[]:=List.eq_nil_of_length_eq_zero (by omega);simp at hu
    ·exact h
   obtain ⟨b,off,e,hb,hc⟩:=h4 hn;obtain rfl:=Option.some.inj e;rw [iQ];exact (World.cell?_alloc_lt w _ _ (show b<w.heap.size by omega)).trans (hc j u hu))
  have HX:=ah hxl;have HO:=ah hone;clear h4 hxl hone;go_enter Tryz.func28,Tryz.ntmps28;go_wp2_with (at_builtin;refine wpList_append_own _ rfl _ _ 33 rfl w.heap.size 42 i0 (.agg #[.int .i64 0,.string ⟨#[]⟩,.int .i64 0]) 3 32 Tryz.underlying33 hi hz0 hz1 hz2 rfl (by omega) _ _ _ rfl (World.ownsRow_made w #[] 0 (Nat.le_refl _) (Nat.zero_le _) (by simp)) a n cap xs rfl HX.out hc.out HO.out (by unfold maxLen;omega) (by omega) (by simp) ?_;intro v' w1 hown hgrow0 _);have hgrow:World.grownBy (w.alloc (.cells #[] 42)) w1 (some w.heap.size):=hgrow0;go_ret;rw [List.nil_append,Nat.zero_add] at hown;exact ⟨v',rfl,hown,((Below.refl _ w).alloc (Nat.le_refl _) _).grown hgrow (by simp) (by intro k hk;injection hk with hk;omega)⟩
theorem O6 (l:List dM):∀u∈l.flatMap fH,u.oneCell'=true:=by
 intro u hu;obtain ⟨s,_,hs⟩:=List.mem_flatMap.1 hu;simp [fH] at hs;rcases hs with rfl | rfl | rfl<;>rfl
theorem Lu {B:Nat} {w:World} {v:Value} {l:List dM} (h:lH B w v l):yH B w v l.length (l.flatMap fH):=by
 obtain ⟨ao,cap,rfl,_,_,h3⟩:=h;exact ⟨ao,cap,rfl,h3⟩
theorem BH (v:Value) (l:List dM) (w:World) (hl:l.length≤16000) (h:lH w.heap.size w v l) :
  Calls Tryz.prog 28 #[v] w fun e w'=>∃v',e=.returned v'∧cu w.heap.size w' v' l∧Below w.heap.size w w':=
 Ii w.heap.size v l.length (l.flatMap fH) w (Nat.le_refl _) hl (vK fH 3 (fun _=>rfl) l) (O6 l) (Lu h)
end Go.Proofs.YtopmdeefcjdadaaGreat
namespace Go.Proofs.YtopmdeefcjdadaaGreat
open Go.ChangeShapes Go.WideShapes Go.RowKit Go.Deep
structure RunR where
 x:Run
 sv:Value
 kv:Value
 rv:Value
instance:Inhabited RunR:=⟨⟨⟨⟨0,0,0,0,0,0,false,false,[]⟩,[],0,[],0,0,0⟩,undef,undef,undef⟩⟩
def EZ (y:RunR):List Value:=[.int .i64 y.x.ef.aK,.int .i64 y.x.ef.low,.int .i64 y.x.ef.aD,.int .i64 y.x.ef.aA,.int .i64 y.x.ef.ay,.int .i64 y.x.ef.ak,.bool y.x.ef.aI,.bool y.x.ef.rel,y.sv,y.kv,.int .i64 y.x.aB,y.rv,.int .i64 y.x.bP,.int .i64 y.x.aN,.int .i64 y.x.aQ]
def lX (B:Nat) (w:World) (v:Value) (l:List Run):Prop:=∃lv:List RunR,lv.map (·.x)=l∧aW B w v lv.length (lv.flatMap EZ)∧∀y∈lv,lY B w y.x y.sv y.kv y.rv
theorem lX.below {B:Nat} {w w':World} {v:Value} {l:List Run} (h:lX B w v l) (hb:Below B w w'):lX B w' v l:=by
 obtain ⟨lv,h1,h2,h3⟩:=h;exact ⟨lv,h1,h2.below hb,fun y hy=>(h3 y hy).below hb⟩
theorem lX.more {B B':Nat} {w:World} {v:Value} {l:List Run} (h:lX B w v l) (hB:B≤B'):lX B' w v l:=by
 obtain ⟨lv,h1,h2,h3⟩:=h;exact ⟨lv,h1,h2.more hB,fun y hy=>(h3 y hy).more hB⟩
theorem lX.shape {B:Nat} {w:World} {v:Value} {l:List Run} (h:lX B w v l):∃ao cap,v=.slice ao l.length cap∧l.length≤maxLen:=by
 obtain ⟨lv,rfl,h2,_⟩:=h;obtain ⟨ao,cap,rfl,_⟩:=aW.shape h2;have:=aW.len h2;exact ⟨ao,cap,by simp,by simpa using this⟩
theorem lX.nil (B:Nat) (w:World):lX B w (.slice none 0 0) []:=⟨[],rfl,aW.nil _ _,by simp⟩
theorem lX.get {B:Nat} {w:World} {v:Value} {l:List Run} (h:lX B w v l) (hl:0<l.length) :
  ∃b off cap,v=.slice (some ⟨b,off,none⟩) l.length cap∧b<B∧∀k (hk:k<l.length),∃sv kv rv,lY B w l[k] sv kv rv∧∀(W:World),Below B w W→∀j u,j<15→(EZ ⟨l[k],sv,kv,rv⟩)[j]?=some u→W.cell? ⟨b,off+k*15+j,none⟩=some u:=by
 obtain ⟨lv,rfl,h1,h2⟩:=h;obtain ⟨b,off,cap,rfl,h3,h4,h5⟩:=aW.rec h1 (n:=15) (fun _=>rfl) (by simpa using hl);refine ⟨b,off,cap,by simp,h3,fun k hk=>?_⟩;have hk':k<lv.length:=by simpa using hk
 refine ⟨lv[k].sv,lv[k].kv,lv[k].rv,by simpa using h2 _ (List.getElem_mem hk'),fun W hW j u hj hu=>?_⟩;have:=h5 k hk' j u hj (by simpa using hu);rw [show off+k*15+j=off+(k*15+j) by omega];exact (hW.cell (p:=⟨b,off+(k*15+j),none⟩) h3).trans this
section
variable {H:Type} {enc:TypeId×Value→H} {w:World} {held:Bool}
theorem Du {fuel:Nat} {cs:List Value} {x:DataW H×List MemPlace} (h:DataW.trod enc Tryz.prog w 0 (fun _=>true) held fuel 32 cs=some x) :
  ∃y:RunR,cs=EZ y∧lY w.heap.size w y.x y.sv y.kv y.rv∧nK y.x:=by
 obtain ⟨hl,n,hf⟩:=rU Tryz.underlying32 h;rw [Bl] at hl;obtain ⟨u0,u1,u2,u3,u4,u5,u6,u7,u8,u9,u10,u11,u12,u13,u14,rfl⟩:=slist15 hl;obtain ⟨y0,k0⟩:=hf 0 _ rfl;obtain ⟨y1,k1⟩:=hf 1 _ rfl;obtain ⟨y2,k2⟩:=hf 2 _ rfl;obtain ⟨y3,k3⟩:=hf 3 _ rfl;obtain ⟨y4,k4⟩:=hf 4 _ rfl;obtain ⟨y5,k5⟩:=hf 5 _ rfl;obtain ⟨y6,k6⟩:=hf 6 _ rfl;simp only [List.getElem_toArray,List.getElem_cons_zero,List.getElem_cons_succ,Cx,Ee,JC,Gv,List.drop_zero,List.drop_succ_cons,List.take_succ_cons,List.take_zero] at k0 k1 k2 k3 k4 k5 k6;obtain ⟨y,sv,e0,h0,f0⟩:=Fe k0;simp at e0;obtain ⟨rfl,rfl,rfl,rfl,rfl,rfl,rfl,rfl,rfl⟩:=e0;obtain ⟨kv,kl,e1,h1,f1⟩:=Mf k1;simp at e1;subst e1;obtain ⟨a2,rfl,w2⟩:=bU Tryz.underlying3 k2;obtain ⟨rv,rl,e3,h3,f3⟩:=Iu k3;simp at e3;subst e3;obtain ⟨a4,rfl,w4⟩:=bU Tryz.underlying3 k4;obtain ⟨a5,rfl,w5⟩:=bU Tryz.underlying3 k5;obtain ⟨a6,rfl,w6⟩:=bU Tryz.underlying3 k6;exact ⟨⟨⟨y,kl,a2,rl,a4,a5,a6⟩,_,_,_⟩,rfl,⟨h0,h1,h3⟩,f0,f1,f3,bT w2,bT w4,bT w5,bT w6⟩
def RunsW (w:World) (v:Value):Prop:=∃l:List Run,lX w.heap.size w v l∧∀p∈l,nK p
theorem open_runnings {r:Reach} {b0:Nat} {v:Value} {d:DataW H} {p:List MemPlace} (hv:Value.okWide Tryz.prog w r b0 44 v) (h:DataW.Trod enc Tryz.prog w 0 (fun _=>true) held 44 v d p) :
  ∃a:Value,v=a∧RunsW w a:=by
 obtain ⟨ao,len,cap,rfl⟩:=okWide_slice Tryz.underlying44 hv;obtain ⟨fuel,hf⟩:=h;obtain ⟨v,l,e,h1,h2⟩:=mU (n:=15) EZ (fun y=>lY w.heap.size w y.x y.sv y.kv y.rv∧nK y.x) (fun _=>rfl) (by omega) Tryz.underlying44 (by kernel_rfl) (fun _ _ _ h=>Du h) hf;simp [Value.cells] at e;subst e;refine ⟨_,rfl,l.map (·.x),⟨l,rfl,h1,fun y hy=>(h2 y hy).1⟩,fun y hy=>?_⟩;obtain ⟨z,hz,rfl⟩:=List.mem_map.1 hy;exact (h2 z hz).2
end
end Go.Proofs.YtopmdeefcjdadaaGreat
namespace Go.Proofs.YtopmdeefcjdadaaGreat
open Go.RowKit
def kQ (l:List dM) (k:Int×ByteArray) (i:Nat) (a:Int):Prop:=(∃j:Nat,a=(j:Int)∧j<i∧∃h:j<l.length,l[j].k=k)∨(a=-1∧∀j (h:j<l.length),j<i→l[j].k≠k)
theorem kQ.aB (l:List dM) (k:Int×ByteArray):kQ l k 0 (-1):=.inr ⟨rfl,fun j _ h=>absurd h (by omega)⟩
theorem kQ.same {l:List dM} {k:Int×ByteArray} {i:Nat} {a:Int} (h:kQ l k i a) (hi:i<l.length) (hn:l[i].k≠k):kQ l k (i+1) a:=by
 rcases h with ⟨j,h1,h2,h3⟩ | ⟨h1,h2⟩
 ·exact .inl ⟨j,h1,by omega,h3⟩
 ·refine .inr ⟨h1,fun j hj hlt=>?_⟩;by_cases e:j=i
  ·subst e;exact hn
  ·exact h2 j hj (by omega)
theorem kQ.here {l:List dM} {k:Int×ByteArray} {i:Nat} (hi:i<l.length) (h:l[i].k=k):kQ l k (i+1) (i:Int):=.inl ⟨i,rfl,by omega,hi,h⟩
theorem kQ.some {l:List dM} (hl:eO l) {k:Int×ByteArray} {a:Int} (h:kQ l k l.length a) (ha:¬a<0):∃i:Nat,a=(i:Int)∧xL l k=Option.some i:=by
 rcases h with ⟨j,h1,h2,h3,h4⟩ | ⟨h1,_⟩
 ·refine ⟨j,h1,?_⟩
  cases ho:xL l k with
  | none=>
   rw [sI] at ho;exact absurd h4 (ho _ (List.getElem_mem h3))
  | some i=>
   obtain ⟨hi,hik⟩:=qG ho;by_cases e:i=j
   ·rw [e]
   ·exfalso;have hn:=List.pairwise_iff_getElem.1 hl;rcases Nat.lt_or_gt_of_ne e with e | e
    ·exact hn i j (by simpa using hi) (by simpa using h3) e (by rw [List.getElem_map,List.getElem_map,hik,h4])
    ·exact hn j i (by simpa using h3) (by simpa using hi) e (by rw [List.getElem_map,List.getElem_map,hik,h4])
 ·omega
theorem kQ.none {l:List dM} {k:Int×ByteArray} {a:Int} (h:kQ l k l.length a) (ha:a<0):xL l k=Option.none:=by
 rcases h with ⟨j,h1,_⟩ | ⟨_,h2⟩
 ·omega
 ·rw [sI];intro y hy;obtain ⟨j,hj,rfl⟩:=List.getElem_of_mem hy;exact h2 j hj hj
theorem IC (r:iK) (lv uv:Value) (xs:List Run) (xv:Value) (l:List dM) (bv:Value) (t:Int) (w:World) (h:kV w.heap.size w r lv uv) (hrf:uO r) (hX:lX w.heap.size w xv xs) (hXf:∀x∈xs,nK x) (hS:lH w.heap.size w bv l) (hSf:∀s∈l,sJ s) :
  Calls Tryz.prog 11 #[mG lv uv,xv,bv,.int .i64 t] w fun e w'=>∃v,e=.returned (.tuple #[v,.int .i64 (vN r xs l t)])∧cu w.heap.size w' v (xP r xs l t)∧Below w.heap.size w w':=by
 have CR:=ah (fun W (hb:Below w.heap.size w W)=>zI r lv uv W ((h.below hb).more hb.size) hrf);have HRG:=ah (fun W (hb:Below w.heap.size w W)=>(h.below hb).more hb.size);have CKU:=ah (fun (x:Run) (sv kv rv:Value) W (hb:Below w.heap.size w W) (hx:lY W.heap.size W x sv kv rv) (hf:nK x)=>A8 r lv uv x sv kv rv W ((h.below hb).more hb.size) hrf hx hf);have CB:=ah (fun W (hb:Below w.heap.size w W) hz=>Fh r lv uv l bv W ((h.below hb).more hb.size) hz ((hS.below hb).more hb.size) hSf);have CP:=ah (fun W (hb:Below w.heap.size w W) (hl:l.length≤16000)=>BH bv l W hl ((hS.below hb).more hb.size));have HXG:=ah (lX.get hX);have HXF:=ah hXf;have HF:=ah (show vN r xs l t=if ru (bR r) (dN (decide (100<xs.length)) 2)≠0 then ru (bR r) (dN (decide (100<xs.length)) 2) else if jF r xs≠0 then jF r xs else ru (dF r l) (dN (!bW t 0 36000000) 1) from rfl);have HZ:=ah (Cz (r:=r) (xs:=xs) (base:=l) (t:=t));have pR:=ah (show vN r xs l t≠0→xP r xs l t=[] from fun h=>by unfold xP;rw [if_neg h]);have yC:=ah (show vN r xs l t=0→xP r xs l t=oI r xs l t from fun h=>by unfold xP;rw [if_pos h]);generalize vN r xs l t=FF at *;generalize xP r xs l t=VV at *;obtain ⟨RF,hRF⟩:∃e,jF r xs=e:=⟨_,rfl⟩;have gW:=ah (show RF=jF r (xs.drop 0) by rw [List.drop_zero,hRF]);rw [hRF] at HF;obtain ⟨xo,xcap,rfl,hxm⟩:=hX.shape;unfold maxLen at hxm;obtain ⟨bo,bcap,rfl,_⟩:=aW.shape hS;clear h hrf hX hXf hS hSf hRF;unfold mG at *;obtain ⟨w1,hw1⟩:∃w1,w1=w.alloc (.cells #[lv,uv] 25):=⟨_,rfl⟩;have Az:=ah (show aH w1 w.heap.size 25 #[lv,uv] from hw1▸aH.new w #[lv,uv] 25);have HB1:=ah (show Below w.heap.size w w1 from hw1▸(Below.refl w.heap.size w).alloc (Nat.le_refl _) (.cells #[lv,uv] 25));have HW1:=ah (show w.heap.size<w1.heap.size from Az.out.lt);have bA:=ah (show ∀W,Below w1.heap.size w1 W→Below w.heap.size w W from fun W h=>HB1.out.trans (h.mono HB1.out.size));have KG:=ah (show ∀W,Below w1.heap.size w1 W→W.cell? ⟨w.heap.size,0,none⟩=some lv∧W.cell? ⟨w.heap.size,1,none⟩=some uv∧w.heap.size<W.heap.size from fun W h=>⟨(Az.out.below h).cell (i:=0) rfl,(Az.out.below h).cell (i:=1) rfl,(Az.out.below h).lt⟩);have KM:=ah (show ∀W W',Below w1.heap.size w1 W→Below W.heap.size W W'→Below w1.heap.size w1 W' from fun W W' h1 h2=>h1.trans (h2.mono h1.size));have Oj:=ah (Below.refl w1.heap.size w1);go_enter Tryz.func11,Tryz.ntmps11;go_upto_region 1 with fail;rw [←hw1];clear hw1 Az HB1;obtain ⟨g0,g1,gl⟩:=KG.out _ Oj.out;go_wp2_with fail;refine (CR.out _ (bA.out _ Oj.out)).mono ?_;rintro e w2 ⟨rfl,hb⟩;have RG:=ah (KM.out _ _ Oj.out hb);clear hb Oj CR g0 g1 gl;have HB:=ah (bA.out _ RG.out);by_cases hcr:bR r=0;rotate_left
 ·have HE:=ah (show FF=bR r by
   have e0:ru (bR r) (dN (decide (100<xs.length)) 2)=bR r:=by unfold ru;rw [if_neg hcr]
   rw [HF.out,e0,if_pos hcr])
  have yI:=ah (pR.out (by rw [HE.out];exact hcr));have hnb:(bR r !=0)=true:=by simp [hcr]
  go_wp2_with fail;exact bodyPost_ret (v:=.tuple #[.slice none 0 0,.int .i64 (bR r)]) (by simp [results,Tryz.results11,go_sem]) rfl ⟨.slice none 0 0,by rw [HE.out]<;>rfl,by rw [yI.out];exact cu.nil _ _,HB.out⟩
 have HCR:=ah hcr;have hnb:(bR r !=0)=false:=by simp [hcr]
 by_cases Ql:100<xs.length
 ·have HE:=ah (show FF=2 by
   have e0:ru (bR r) (dN (decide (100<xs.length)) 2)=2:=by unfold ru dN;rw [if_pos hcr];simp [Ql]
   rw [HF.out,e0];rfl)
  have yI:=ah (pR.out (by rw [HE.out];decide));have hxi:(xs.length:Int)>100:=by omega
  go_wp2_with fail;exact bodyPost_ret (v:=.tuple #[.slice none 0 0,.int .i64 2]) (by simp [results,Tryz.results11,go_sem]) rfl ⟨.slice none 0 0,by rw [HE.out]<;>rfl,by rw [yI.out];exact cu.nil _ _,HB.out⟩
 have pO:=ah (show FF=if RF≠0 then RF else ru (dF r l) (dN (!bW t 0 36000000) 1) by
  have e0:ru (bR r) (dN (decide (100<xs.length)) 2)=0:=by unfold ru dN;rw [if_pos hcr];simp [Ql]
  rw [HF.out,e0];rfl)
 have CK:=ah (show ∀(x:Run) (sv kv rv:Value) W (hb:Below w.heap.size w W) (hx:lY W.heap.size W x sv kv rv) (hf:nK x),Calls Tryz.prog 8 #[.agg #[lv,uv],uE x sv kv rv] W fun e w'=>e=.returned (.int .i64 (dV r x))∧Below W.heap.size W w' from fun x sv kv rv W hb hx hf=>by
  have h:=CKU.out x sv kv rv W hb hx hf;rw [show Rq r x=dV r x by unfold Rq;rw [if_neg (by simpa using hcr)]] at h;exact h)
 have CBX:=ah (fun W hb=>CB.out W hb hcr);clear HF CKU CB HB;have hxi:¬(xs.length:Int)>100:=by omega
 go_wp2_with fail;clear hnb;go_loopw [32] (fun i wx=>∃k:Nat,k≤xs.length∧i=.int .i64 k∧Hid (RF=jF r (xs.drop k))∧Hid (Below w1.heap.size w1 wx)) (fun i _=>xs.length-(intOf i).toNat)
 case atStart=>exact ⟨0,Nat.zero_le _,rfl,gW,RG⟩
 case round=>
  clear gW RG;obtain ⟨k,hk,rfl,gW,HB⟩:=hrel;by_cases hlt:k<xs.length
  ·have HST:=ah (gW.out.trans (zC r xs k hlt));obtain ⟨b,off,cap',hsl,hbb,hgc⟩:=HXG.out (by omega);injection hsl with hs1 hs2 hs3;subst hs1 hs3;obtain ⟨sv,kv,rv,hra,uL⟩:=hgc k hlt;have hcr:∀W,Below w.heap.size w W→∀j u,j<15→(EZ ⟨xs[k],sv,kv,rv⟩)[j]?=some u→W.cell? ⟨b,off+k*15+j,none⟩=some u:=uL;have hfit:=HXF.out _ (List.getElem_mem hlt);obtain ⟨so,cO,ko,dG,ro,bD,rfl,rfl,rfl⟩:=sV hra;have hbr:b<wr.heap.size:=by have:=(bA.out _ HB.out).size;omega
   have CX0:=ah (fun W (hb:Below w.heap.size w W)=>CK.out xs[k] _ _ _ W hb ((hra.below hb).more hb.size) hfit);have d0:=hcr wr (bA.out _ HB.out) 0 _ (by omega) rfl;have d1:=hcr wr (bA.out _ HB.out) 1 _ (by omega) rfl;have d2:=hcr wr (bA.out _ HB.out) 2 _ (by omega) rfl;have d3:=hcr wr (bA.out _ HB.out) 3 _ (by omega) rfl;have d4:=hcr wr (bA.out _ HB.out) 4 _ (by omega) rfl;have d5:=hcr wr (bA.out _ HB.out) 5 _ (by omega) rfl;have d6:=hcr wr (bA.out _ HB.out) 6 _ (by omega) rfl;have d7:=hcr wr (bA.out _ HB.out) 7 _ (by omega) rfl;have d8:=hcr wr (bA.out _ HB.out) 8 _ (by omega) rfl;have d9:=hcr wr (bA.out _ HB.out) 9 _ (by omega) rfl;have d10:=hcr wr (bA.out _ HB.out) 10 _ (by omega) rfl;have d11:=hcr wr (bA.out _ HB.out) 11 _ (by omega) rfl;have d12:=hcr wr (bA.out _ HB.out) 12 _ (by omega) rfl;have d13:=hcr wr (bA.out _ HB.out) 13 _ (by omega) rfl;have d14:=hcr wr (bA.out _ HB.out) 14 _ (by omega) rfl;simp only [Nat.add_zero] at d0;clear hgc hcr uL hra hfit;generalize dV r xs[k]=CV at *;generalize hxk:xs[k]=xk at *;clear hxk;obtain ⟨⟨aK,low,aD,aA,ay,ak,aI,rel,st⟩,aO,aB,aJ,bP,aN,aQ⟩:=xk;unfold uE at CX0;simp only at *;generalize st.length=sl at *;generalize aO.length=kl at *;generalize aJ.length=rl at *;have vY:=ah (aH.new wr #[.int .i64 aK,.int .i64 low,.int .i64 aD,.int .i64 aA,.int .i64 ay,.int .i64 ak,.bool aI,.bool rel,.slice so sl cO,.slice ko kl dG,.int .i64 aB,.slice ro rl bD,.int .i64 bP,.int .i64 aN,.int .i64 aQ] 32);have lM:=ah (HB.out.alloc HB.out.size (.cells #[.int .i64 aK,.int .i64 low,.int .i64 aD,.int .i64 aA,.int .i64 ay,.int .i64 ak,.bool aI,.bool rel,.slice so sl cO,.slice ko kl dG,.int .i64 aB,.slice ro rl bD,.int .i64 bP,.int .i64 aN,.int .i64 aQ] 32));have CX:=ah (CX0.out _ (bA.out _ lM.out));go_upto_region 9 with fail;clear d0 d1 d2 d3 d4 d5 d6 d7 d8 d9 d10 d11 d12 d13 d14 CX0;generalize Qn:wr.alloc (.cells #[.int .i64 aK,.int .i64 low,.int .i64 aD,.int .i64 aA,.int .i64 ay,.int .i64 ak,.bool aI,.bool rel,.slice so sl cO,.slice ko kl dG,.int .i64 aB,.slice ro rl bD,.int .i64 bP,.int .i64 aN,.int .i64 aQ] 32)=wa at *;clear Qn;obtain ⟨q0,q1,q2,q3,q4,q5,q6,q7,q8,q9,kS,l7,nk,ow,ou⟩:=c15 vY.out;have ql:=vY.out.lt;obtain ⟨g0,g1,gl⟩:=KG.out _ lM.out;go_wp2_with fail;refine CX.out.mono ?_;rintro e w5 ⟨rfl,hb⟩;have nU:=ah (KM.out _ _ lM.out hb);clear hb CX q0 q1 q2 q3 q4 q5 q6 q7 q8 q9 kS l7 nk ow ou ql g0 g1 gl HB lM vY;by_cases hcv:CV=0
   ·have HRN:=ah (show RF=jF r (xs.drop (k+1)) by rw [HST.out,if_neg (by simpa using hcv)]);subst hcv;go_wp2_with fail;go_roundw
    case rel=>exact ⟨k+1,by omega,by first | rfl | go_num,HRN,nU⟩
    case measure=>simp [intOf];omega
   ·have HRV:=ah (show RF=CV by rw [HST.out,if_pos hcv]);have HE:=ah (show FF=CV by rw [pO.out,HRV.out,if_pos hcv]);have yI:=ah (pR.out (by rw [HE.out];exact hcv));have hnb:(CV !=0)=true:=by simp [hcv]
    have gu:=ah (bA.out _ nU.out);go_wp2_with fail;exact bodyPost_ret (v:=.tuple #[.slice none 0 0,.int .i64 CV]) (by simp [results,Tryz.results11,go_sem]) rfl ⟨.slice none 0 0,by rw [HE.out]<;>rfl,by rw [yI.out];exact cu.nil _ _,gu.out⟩
  ·have Qs:RF=0:=by rw [gW.out,List.drop_of_length_le (by omega)];rfl
   have RZ:=ah (show FF=ru (dF r l) (dN (!bW t 0 36000000) 1) by rw [pO.out,Qs];rfl);clear pO gW Qs hk CK;obtain ⟨g0,g1,gl⟩:=KG.out _ HB.out;go_wp2_with fail;refine (CBX.out _ (bA.out _ HB.out)).mono ?_;rintro e w5 ⟨rfl,hb⟩;have KR5:=ah (KM.out _ _ HB.out hb);clear hb HB g0 g1 gl CBX;by_cases hcb:dF r l=0;rotate_left
   ·have HE:=ah (show FF=dF r l by
     have e0:ru (dF r l) (dN (!bW t 0 36000000) 1)=dF r l:=by unfold ru;rw [if_neg hcb]
     rw [RZ.out,e0])
    have yI:=ah (pR.out (by rw [HE.out];exact hcb));have hnb:(dF r l !=0)=true:=by simp [hcb]
    have gu:=ah (bA.out _ KR5.out);go_wp2_with fail;exact bodyPost_ret (v:=.tuple #[.slice none 0 0,.int .i64 (dF r l)]) (by simp [results,Tryz.results11,go_sem]) rfl ⟨.slice none 0 0,by rw [HE.out]<;>rfl,by rw [yI.out];exact cu.nil _ _,gu.out⟩
   rcases Bool.eq_false_or_eq_true (bW t 0 36000000) with ht | ht;rotate_left
   ·have HE:=ah (show FF=1 by
     have e0:ru (dF r l) (dN (!bW t 0 36000000) 1)=1:=by unfold ru dN;rw [if_pos hcb,ht];rfl
     rw [RZ.out,e0])
    have yI:=ah (pR.out (by rw [HE.out];decide));have hnb:(dF r l !=0)=false:=by simp [hcb]
    have gu:=ah (bA.out _ KR5.out);go_wp2_with (first | (go_at_call 22;((with_reducible refine (gK _ _).mono ?_);rintro e w' ⟨rfl,rfl⟩)) | fail);exact bodyPost_ret (v:=.tuple #[.slice none 0 0,.int .i64 1]) (by simp [results,Tryz.results11,go_sem]) rfl ⟨.slice none 0 0,by rw [HE.out]<;>rfl,by rw [yI.out];exact cu.nil _ _,gu.out⟩
   have HFZ:=ah (show FF=0 by
    have e0:ru (dF r l) (dN (!bW t 0 36000000) 1)=0:=by unfold ru dN;rw [if_pos hcb,ht];rfl
    rw [RZ.out,e0])
   obtain ⟨t0,t1⟩:=(nZ _ _ _).1 ht;have yI:=ah (yC.out HFZ.out);obtain ⟨hcr2,_,Oc,_,_,_⟩:=HZ.out HFZ.out;have NY:=ah (zT hcb);have HRU:=ah (zA Oc);have MW:=NY.out.few hcr2;have HCQ:=ah hcr2;have CPX:=ah (CP.out w5 (bA.out _ KR5.out) MW);have hnb:(dF r l !=0)=false:=by simp [hcb]
   clear pR yC HZ RZ CP Oc hcr2;go_wp2_with (first | (go_at_call 22;((with_reducible refine (gK _ _).mono ?_);rintro e w' ⟨rfl,rfl⟩)) | fail);refine CPX.out.mono ?_;rintro e w6 ⟨ov,rfl,hO,hb⟩;have tZ:=ah (KM.out _ _ KR5.out hb);have HO6:=ah (cu.lower hO KR5.out.size);clear hb hO KR5 CPX hcb ht;generalize dF r l=csv at *;obtain ⟨LF,QN⟩:∃f:Nat→List dM,(fun k=>oI r (xs.take k) l t)=f:=⟨_,rfl⟩;have HL0:=ah (show LF 0=l by rw [←QN];simp only [List.take_zero];rfl);have HLE:=ah (show LF xs.length=VV by rw [←QN,yI.out];simp only [List.take_length]);have HLS:=ah (show ∀k (h:k<xs.length),LF (k+1)=(dQ xs[k] t (qB r (LF k))).foldl iR (LF k) from fun k h=>by rw [←QN];exact yB r xs l t k h);have HLO:=ah (show ∀k,kP r (LF k) from fun k=>by rw [←QN];exact xO _ _ NY.out (fun x hx=>HRU.out x (List.mem_of_mem_take hx)));clear QN yI hlt;have HO7:=ah (show cu w1.heap.size w6 ov (LF 0) by rw [HL0.out];exact HO6.out);clear HO6;obtain ⟨oa,oc,hov⟩:=HO7.out.shape;subst hov;go_wp2_with fail;clear hnb;go_loopw [15,56] (fun ov i wx=>∃(k:Nat) (o:Value),k≤xs.length∧i=.int .i64 k∧o=ov∧Hid (cu w1.heap.size wx o (LF k))∧Hid (Below w1.heap.size w1 wx)) (fun _ i _=>xs.length-(intOf i).toNat)
   case atStart=>exact ⟨0,_,Nat.zero_le _,rfl,rfl,HO7,tZ⟩
   case round=>
    clear HO7 tZ HL0;obtain ⟨k,ov,hk,rfl,rfl,HO,HB⟩:=hrel;by_cases hlt:k<xs.length
    ·have rD:=ah (HLS.out k hlt);have Ev:=ah (HLO.out k);obtain ⟨b,off,cap',hsl,hbb,hgc⟩:=HXG.out (by omega);injection hsl with hs1 hs2 hs3;subst hs1 hs3;obtain ⟨sv,kv,rv,hra,uL⟩:=hgc k hlt;have hcr:∀W,Below w.heap.size w W→∀j u,j<15→(EZ ⟨xs[k],sv,kv,rv⟩)[j]?=some u→W.cell? ⟨b,off+k*15+j,none⟩=some u:=uL;have hfit:=HXF.out _ (List.getElem_mem hlt);obtain ⟨so,cO,ko,dG,ro,bD,rfl,rfl,rfl⟩:=sV hra;have hbr:b<wr.heap.size:=by have:=(bA.out _ HB.out).size;omega
     have hzx:=HRU.out _ (List.getElem_mem hlt);have AJ:=ah (fun s hs=>uF hzx (t:=t) (nO:=qB r (LF k)) (s:=s) hs);have HRL:=ah (xZ hzx (t:=t) (nO:=qB r (LF k)))
     have CS:=ah (show ∀W,Below w.heap.size w W→lH W.heap.size W ov (LF k)→Calls Tryz.prog 23 #[.agg #[lv,uv],uE xs[k] (.slice so xs[k].ef.jV.length cO) (.slice ko xs[k].aO.length dG) (.slice ro xs[k].aJ.length bD),ov,.int .i64 t] W fun e w'=>∃v,e=.returned v∧cu W.heap.size w' v (dQ xs[k] t (qB r (LF k)))∧Below W.heap.size W w' from fun W hb hs=>by
      have hlv:=fun key:Int×ByteArray=>levI_eq (r:=r) Ev.out.once key;rw [←Dp xs[k] t (tV r (LF k)) (qB r (LF k)) (fun key _=>hlv key)];exact LV r lv uv ov (LF k) xs[k] _ _ _ t W (HRG.out W hb) HCQ.out hs ((hra.below hb).more hb.size) hfit hzx t0 t1 (fun key _=>by rw [hlv key];exact Aa HCQ.out Ev.out.levs key))
     have d0:=hcr wr (bA.out _ HB.out) 0 _ (by omega) rfl;have d1:=hcr wr (bA.out _ HB.out) 1 _ (by omega) rfl;have d2:=hcr wr (bA.out _ HB.out) 2 _ (by omega) rfl;have d3:=hcr wr (bA.out _ HB.out) 3 _ (by omega) rfl;have d4:=hcr wr (bA.out _ HB.out) 4 _ (by omega) rfl;have d5:=hcr wr (bA.out _ HB.out) 5 _ (by omega) rfl;have d6:=hcr wr (bA.out _ HB.out) 6 _ (by omega) rfl;have d7:=hcr wr (bA.out _ HB.out) 7 _ (by omega) rfl;have d8:=hcr wr (bA.out _ HB.out) 8 _ (by omega) rfl;have d9:=hcr wr (bA.out _ HB.out) 9 _ (by omega) rfl;have d10:=hcr wr (bA.out _ HB.out) 10 _ (by omega) rfl;have d11:=hcr wr (bA.out _ HB.out) 11 _ (by omega) rfl;have d12:=hcr wr (bA.out _ HB.out) 12 _ (by omega) rfl;have d13:=hcr wr (bA.out _ HB.out) 13 _ (by omega) rfl;have d14:=hcr wr (bA.out _ HB.out) 14 _ (by omega) rfl;simp only [Nat.add_zero] at d0;clear hgc hcr uL hra hfit hzx;generalize dQ xs[k] t (qB r (LF k))=M at *;generalize hxk:xs[k]=xk at *;clear hxk;obtain ⟨⟨aK,low,aD,aA,ay,ak,aI,rel,st⟩,aO,aB,aJ,bP,aN,aQ⟩:=xk;unfold uE at CS;simp only at *;generalize st.length=sl at *;generalize aO.length=kl at *;generalize aJ.length=rl at *;have vY:=ah (aH.new wr #[.int .i64 aK,.int .i64 low,.int .i64 aD,.int .i64 aA,.int .i64 ay,.int .i64 ak,.bool aI,.bool rel,.slice so sl cO,.slice ko kl dG,.int .i64 aB,.slice ro rl bD,.int .i64 bP,.int .i64 aN,.int .i64 aQ] 32);have lM:=ah (HB.out.alloc HB.out.size (.cells #[.int .i64 aK,.int .i64 low,.int .i64 aD,.int .i64 aA,.int .i64 ay,.int .i64 ak,.bool aI,.bool rel,.slice so sl cO,.slice ko kl dG,.int .i64 aB,.slice ro rl bD,.int .i64 bP,.int .i64 aN,.int .i64 aQ] 32));have mO:=ah (HO.out.below ((Below.refl _ _).alloc (Nat.le_refl _) (.cells #[.int .i64 aK,.int .i64 low,.int .i64 aD,.int .i64 aA,.int .i64 ay,.int .i64 ak,.bool aI,.bool rel,.slice so sl cO,.slice ko kl dG,.int .i64 aB,.slice ro rl bD,.int .i64 bP,.int .i64 aN,.int .i64 aQ] 32)));have CX:=ah (CS.out _ (bA.out _ lM.out) mO.out.stgS);have K3:=ah (show ∀g,ov.ownBlock=some g→g<(wr.alloc (.cells #[.int .i64 aK,.int .i64 low,.int .i64 aD,.int .i64 aA,.int .i64 ay,.int .i64 ak,.bool aI,.bool rel,.slice so sl cO,.slice ko kl dG,.int .i64 aB,.slice ro rl bD,.int .i64 bP,.int .i64 aN,.int .i64 aQ] 32)).heap.size from fun g hg=>(World.ownsRow.lt mO.out g hg).2);clear CS HB HO;obtain ⟨oa2,oc2,hov⟩:=mO.out.shape;subst hov;go_upto_region 22 with fail;clear d0 d1 d2 d3 d4 d5 d6 d7 d8 d9 d10 d11 d12 d13 d14;generalize Qn:wr.alloc (.cells #[.int .i64 aK,.int .i64 low,.int .i64 aD,.int .i64 aA,.int .i64 ay,.int .i64 ak,.bool aI,.bool rel,.slice so sl cO,.slice ko kl dG,.int .i64 aB,.slice ro rl bD,.int .i64 bP,.int .i64 aN,.int .i64 aQ] 32)=wa at *;clear Qn;obtain ⟨q0,q1,q2,q3,q4,q5,q6,q7,q8,q9,kS,l7,nk,ow,ou⟩:=c15 vY.out;have ql:=vY.out.lt;obtain ⟨g0,g1,gl⟩:=KG.out _ lM.out;go_wp2_with fail;refine CX.out.mono ?_;rintro e w8 ⟨v2,rfl,hv2,hb⟩;obtain ⟨B1,hB1⟩:∃n,wa.heap.size=n:=⟨_,rfl⟩;obtain ⟨V1,hV1⟩:∃n,w8.heap.size=n:=⟨_,rfl⟩;have K6:=ah (KM.out _ _ lM.out hb);have HO8:=ah (show cu w1.heap.size w8 (.slice oa2 (LF k).length oc2) ((M.take 0).foldl iR (LF k)) by rw [List.take_zero];exact mO.out.below hb);have RV:=ah (show ∀g,(Value.slice oa2 (LF k).length oc2).ownBlock=some g→g<B1∨V1≤g from fun g hg=>.inl (hB1▸K3.out g hg));have Dh:=ah (show cu B1 w8 v2 M from hB1▸hv2);have yJ:=ah (show ∀g,v2.ownBlock=some g→B1≤g∧g<V1 from fun g hg=>by have:=World.ownsRow.lt hv2 g hg;omega);have HBV:=ah (show w1.heap.size≤B1∧B1≤V1 from ⟨by have:=lM.out.size;omega,by have:=hb.size;omega⟩);have HOJ:=ah (show ∀j,kP r ((M.take j).foldl iR (LF k)) from fun j=>kP.puts _ _ Ev.out (fun s hs=>AJ.out s (List.mem_of_mem_take hs)));have HVS:=ah (show V1≤w8.heap.size by omega);clear hb hv2 CX lM mO K3 vY q0 q1 q2 q3 q4 q5 q6 q7 q8 q9 kS l7 nk ow ou ql g0 g1 gl hB1 hV1 Ev;obtain ⟨va,vc,hv2s⟩:=Dh.out.shape;subst hv2s;have hMl:=HRL.out;go_wp2_with fail;go_loopw [15,66] (fun ov i wx=>∃(j:Nat) (o:Value),j≤M.length∧i=.int .i64 j∧o=ov∧Hid (cu w1.heap.size wx o ((M.take j).foldl iR (LF k)))∧Hid (∀g,o.ownBlock=some g→g<B1∨V1≤g)∧Hid (cu B1 wx (.slice va M.length vc) M)∧Hid (Below w1.heap.size w1 wx∧V1≤wx.heap.size)) (fun _ i _=>M.length-(intOf i).toNat)
     case atStart=>exact ⟨0,_,Nat.zero_le _,rfl,rfl,HO8,RV,Dh,ah ⟨K6.out,HVS.out⟩⟩
     case round=>
      clear HO8 RV Dh K6;obtain ⟨j,ov,hj,rfl,rfl,HO,K3,Dh,nM⟩:=hrel;by_cases hjl:j<M.length
      ·have Oo:=ah (BP M (LF k) j hjl);have G9:=ah (HOJ.out j);have HJF:=G9.out.few HCQ.out;obtain ⟨g2,cap2,cur2,hsl2,hg2b,rZ,hcz2,QE⟩:=Dh.out.get (by omega);injection hsl2 with e1 e2 e3;subst e1 e3;obtain ⟨c0,c1,c2⟩:=QE j hjl;have d0:=rZ.cell c0;have d1:=rZ.cell c1;have d2:=rZ.cell c2;have hbr:g2<wr.heap.size:=rZ.lt;clear rZ QE c0 c1 c2;generalize kC:M[j]=rk at *;clear kC;obtain ⟨su,sp,jd⟩:=rk;simp only at *;generalize hLJ:(M.take j).foldl iR (LF k)=LJ at *;have hLJ2:=ah hLJ;clear hLJ;obtain ⟨LN,hLN⟩:∃x,(M.take (j+1)).foldl iR (LF k)=x:=⟨_,rfl⟩;have D6:=ah hLN;rw [hLN] at Oo;clear hLN;obtain ⟨sb,hsb⟩:∃n,wr.heap.size=n:=⟨_,rfl⟩;have HB1:=ah (show Below w1.heap.size w1 (wr.alloc (.cells #[.int .i64 su,.string sp,.int .i64 jd] 42))∧V1≤(wr.alloc (.cells #[.int .i64 su,.string sp,.int .i64 jd] 42)).heap.size from ⟨nM.out.1.alloc nM.out.1.size (.cells #[.int .i64 su,.string sp,.int .i64 jd] 42),by have:=nM.out.2;simp;omega⟩);have mO:=ah (HO.out.below ((Below.refl _ _).alloc (Nat.le_refl _) (.cells #[.int .i64 su,.string sp,.int .i64 jd] 42)));have HOW:=HO;have yC:=ah (Dh.out.below ((Below.refl _ _).alloc (Nat.le_refl _) (.cells #[.int .i64 su,.string sp,.int .i64 jd] 42)));have Oq:=ah (show aH (wr.alloc (.cells #[.int .i64 su,.string sp,.int .i64 jd] 42)) sb 42 #[.int .i64 su,.string sp,.int .i64 jd] from hsb▸aH.new wr _ _);clear nM Dh HO
       have HSNE:=ah (show ov.ownBlock≠some sb from fun e=>by
        have:=(World.ownsRow.lt HOW.out sb e).2;omega)
       clear HOW;obtain ⟨oa4,oc4,hov⟩:=mO.out.shape;subst hov;go_upto_region 26 with fail;clear d0 d1 d2 hsb;generalize hwb:wr.alloc (.cells #[.int .i64 su,.string sp,.int .i64 jd] 42)=wb at *;clear hwb;go_wp2_with fail;go_loopw [20,72] (fun a i wx=>∃(n:Nat) (av:Int),n≤LJ.length∧a=.int .i64 av∧i=.int .i64 n∧Hid (kQ LJ (su,sp) n av)∧Hid (Below wb.heap.size wb wx)) (fun _ i _=>LJ.length-(intOf i).toNat)
       case atStart=>exact ⟨0,-1,Nat.zero_le _,rfl,rfl,ah (kQ.aB _ _),ah (Below.refl _ _)⟩
       case round=>
        obtain ⟨n,av,hn,rfl,rfl,HLA,dI⟩:=hrel;have oo:=ah (Oq.out.below dI.out);have uq:=ah (mO.out.below dI.out);by_cases hnl:n<LJ.length
        ·obtain ⟨g,cap,cur,hsl,hgb,hcur,hcz,hce⟩:=uq.out.get (by omega);injection hsl with e1 _ e3;subst e1 e3;obtain ⟨c0,c1,c2⟩:=hce n hnl;have d0:=hcur.cell c0;have d1:=hcur.cell c1;have k0:=oo.out.cell (i:=0) rfl;have k1:=oo.out.cell (i:=1) rfl;have kl2:=oo.out.lt;have gl:=hcur.lt;have KW:=ah (HLA.out.same hnl);have K4:=ah (kQ.here (k:=(su,sp)) hnl);have hky:LJ[n].k=(LJ[n].unit,LJ[n].par):=rfl;rw [hky] at KW K4;clear hcur hce c0 c1 c2 oo HLA uq hky;generalize LJ[n]=y at *;obtain ⟨yu,yp,yl⟩:=y;simp only at *;by_cases he:yu=su∧yp=sp
         ·obtain ⟨e1,e2⟩:=he;subst e1 e2;have HL2:=ah (K4.out rfl);clear KW K4;go_wp2_with fail;go_quiet (fail)
          go_wp2_with fail;go_roundw
          case rel=>exact ⟨n+1,(n:Int),by omega,rfl,by first | rfl | go_num,HL2,ah (dz dI.out _)⟩
          case measure=>simp [intOf];omega
         ·have HL2:=ah (KW.out (fun e=>he ⟨congrArg Prod.fst e,congrArg Prod.snd e⟩));clear KW K4;by_cases h1:yu=su
          ·have h2:¬yp.toList=sp.toList:=fun h=>he ⟨h1,ByteArray.ext (Array.toList_inj.1 (by rw [←Lib.toList_data,←Lib.toList_data];exact h))⟩;have h3:(yp.toList==sp.toList)=false:=beq_eq_false_iff_ne.2 h2;subst h1;clear he;go_wp2_with fail;go_quiet (fail)
           go_wp2_with fail;go_roundw
           case rel=>exact ⟨n+1,av,by omega,rfl,by first | rfl | go_num,HL2,ah (dz dI.out _)⟩
           case measure=>simp [intOf];omega
          ·have h4:(yu==su)=false:=by simpa using h1
           clear he;go_wp2_with fail;go_quiet (fail)
           go_wp2_with fail;go_roundw
           case rel=>exact ⟨n+1,av,by omega,rfl,by first | rfl | go_num,HL2,ah (dz dI.out _)⟩
           case measure=>simp [intOf];omega
        ·have hnn:n=LJ.length:=by omega
         subst hnn;have Ol:=ah (yC.out.below dI.out);have vV:=ah (show Below w1.heap.size w1 wr∧V1≤wr.heap.size from ⟨HB1.out.1.trans (dI.out.mono HB1.out.1.size),Nat.le_trans HB1.out.2 dI.out.size⟩);clear dI Oq mO yC HB1;have k0:=oo.out.cell (i:=0) rfl;have k1:=oo.out.cell (i:=1) rfl;have k2:=oo.out.cell (i:=2) rfl;have kl2:=oo.out.lt;by_cases hav:av<0
         ·have HAN:=ah (HLA.out.none hav);have JU:=ah (show LN=LJ++[(⟨su,sp,jd⟩:dM)] by rw [Oo.out];exact rP HAN.out);have HOC:=ah (uq.out.below ((Below.refl _ _).alloc (Nat.le_refl _) (.cells #[.int .i64 su,.string sp,.int .i64 jd] 42)));have kr:=ah (show Below w1.heap.size w1 (wr.alloc (.cells #[.int .i64 su,.string sp,.int .i64 jd] 42))∧V1≤(wr.alloc (.cells #[.int .i64 su,.string sp,.int .i64 jd] 42)).heap.size from ⟨vV.out.1.alloc vV.out.1.size (.cells #[.int .i64 su,.string sp,.int .i64 jd] 42),by have:=vV.out.2;simp;omega⟩);clear HAN HLA;go_wp2_with (first | (at_builtin;refine uW rfl _ _ rfl w1.heap.size 1 _ LJ ⟨su,sp,jd⟩ ⟨wr.heap.size,0,none⟩ rfl rfl HOC.out (zS wr ⟨su,sp,jd⟩ _) (by omega) kr.out.1.size ?_;intro o3 W3 Ew hg3 hwh) | fail);clear k0 k1 k2 kl2
          have HVZ:=ah ((Ol.out.below ((Below.refl _ _).alloc (Nat.le_refl _) (.cells #[.int .i64 su,.string sp,.int .i64 jd] 42))).kept hg3 (by
           by_cases c:(Value.slice (some ⟨g2,0,none⟩) M.length vc).ownBlock=(Value.slice oa4 LJ.length oc4).ownBlock
           ·exfalso;have k1:=yJ.out g2 rfl;have k2:=K3.out g2 c.symm;omega
           ·exact .inr c))
          have qW:=ah (show Below w1.heap.size w1 W3∧V1≤W3.heap.size from ⟨HOC.out.keeps kr.out.1 hg3 (Nat.le_refl _) kr.out.1.size,Nat.le_trans kr.out.2 hg3.size⟩)
          have Bz:=ah (show ∀g,o3.ownBlock=some g→g<B1∨V1≤g from fun g hg=>by
           rcases hwh g hg with h1 | h1
           ·exact K3.out g h1
           ·have:=kr.out.2;omega)
          have Hu:=ah (show cu w1.heap.size W3 o3 LN by rw [JU.out];exact Ew);clear hg3 hwh Ew HOC kr Ol vV uq oo;go_roundw
          case rel=>exact ⟨j+1,_,by omega,by first | rfl | go_num,rfl,ah (by rw [D6.out];exact Hu.out),Bz,HVZ,qW⟩
          case measure=>simp [intOf];omega
         ·obtain ⟨i,rfl,Og⟩:=HLA.out.some G9.out.once hav;obtain ⟨hi,hik⟩:=qG Og;have JU:=ah (show LN=LJ.set i ⟨su,sp,jd⟩ by rw [Oo.out];exact yL G9.out.once Og);have Bz:=K3;clear hik Og HLA;obtain ⟨g,cap,cur,hsl,hgb,hcur,hcz,_⟩:=uq.out.get (by omega);injection hsl with e1 _ e3;subst e1 e3;have s0:wr.cell? ⟨g,i*3,none⟩=some (cur[i*3]'(by omega)):=hcur.cell (Array.getElem?_eq_getElem (by omega));have s1:wr.cell? ⟨g,i*3+1,none⟩=some (cur[i*3+1]'(by omega)):=hcur.cell (Array.getElem?_eq_getElem (by omega));have s2:wr.cell? ⟨g,i*3+2,none⟩=some (cur[i*3+2]'(by omega)):=hcur.cell (Array.getElem?_eq_getElem (by omega));have f0:=hcur.frozen (i*3);have f1:=hcur.frozen (i*3+1);have f2:=hcur.frozen (i*3+2);have gl:=hcur.lt;have hgs:=iw (iw (lF wr g (i*3) (.int .i64 su)) (lF _ g (i*3+1) (.string sp))) (lF _ g (i*3+2) (.int .i64 jd));have HOZ:=ah (uq.out.put3 i (by omega) ⟨su,sp,jd⟩)
          have HVZ:=ah (Ol.out.kept hgs (by
           by_cases c:(Value.slice (some ⟨g2,0,none⟩) M.length vc).ownBlock=some g
           ·exfalso;have k1:=yJ.out g c;have k2:=Bz.out g rfl;omega
           ·exact .inr c))
          have qW:=ah (show Below w1.heap.size w1 _∧V1≤(_:World).heap.size from ⟨uq.out.keeps vV.out.1 hgs (Nat.le_refl _) vV.out.1.size,Nat.le_trans vV.out.2 hgs.size⟩);clear hcur hgs Ol vV;have Hu:=ah (show cu w1.heap.size _ (.slice (some ⟨g,0,none⟩) LJ.length oc4) LN from JU.out▸HOZ.out);have hii:(i:Int)<(LJ.length:Int):=by omega
          have hav2:¬((i:Int)<0):=by omega
          go_wp2_with fail;go_roundw
          case rel=>exact ⟨j+1,_,by omega,by first | rfl | go_num,rfl,ah (by rw [D6.out];exact Hu.out),Bz,HVZ,qW⟩
          case measure=>simp [intOf];omega
      ·have hjj:j=M.length:=by omega
       subst hjj;rw [List.take_length,←rD.out] at HO;obtain ⟨oa3,oc3,hov⟩:=HO.out.shape;subst hov;go_wp2_with fail;go_roundw
       case rel=>exact ⟨k+1,_,by omega,by first | rfl | go_num,rfl,HO,ah nM.out.1⟩
       case measure=>simp [intOf];omega
    ·have hkk:k=xs.length:=by omega
     subst hkk;rw [HLE.out] at HO;obtain ⟨oa3,oc3,hov⟩:=HO.out.shape;subst hov;have gu:=ah (bA.out _ HB.out);have HOE:=ah (cu.lower HO.out (Nat.le_of_lt HW1.out));go_wp2_with fail;exact bodyPost_ret (v:=.tuple #[.slice oa3 VV.length oc3,.int .i64 0]) (by simp [results,Tryz.results11,go_sem]) rfl ⟨_,by rw [HFZ.out],HOE.out,gu.out⟩
end Go.Proofs.YtopmdeefcjdadaaGreat
