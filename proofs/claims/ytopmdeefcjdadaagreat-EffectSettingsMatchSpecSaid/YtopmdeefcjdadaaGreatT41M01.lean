import Derived.Test.YtopmdeefcjdadaaGreatT41M00
import Derived.Test.YtopmdeefcjdadaaGreatProg
import Derived.WalkKit
import Derived.ProofKit
import Derived.OpenShut
import Derived.Deep.Slices
import Derived.Deep.Fields
import Derived.Below
import Derived.Laws.AppendOwn
import Derived.MapViews
import Derived.DeepKeys4
import Derived.Maps.Keyed
set_option linter.unusedVariables false
set_option linter.unusedSimpArgs false
set_option maxRecDepth 100000
set_option maxHeartbeats 32000000
namespace Go.Proofs.YtopmdeefcjdadaaGreat
open Go.ChangeShapes Go.WideShapes Go.RowKit Go.Deep
section
variable {H:Type} {enc:TypeId×Value→H} {P:Program} {w:World} {base:Nat} {spare:Nat→Bool} {held:Bool}
theorem wV {r:Reach} {b0:Nat} {t:TypeId} {fs:Array Field} {v:Value} {d:DataW H} {p:List MemPlace} (hs:P.underlying t=some (.struct fs))
  (hv:Value.okWide P w r b0 t v) (h:DataW.Trod enc P w base spare held t v d p) :
  ∃(cs:List Value) (n:Nat),v=.agg cs.toArray∧cs.length=P.cellsOf t∧∀(i:Nat) (f:Field),fs[i]?=some f→∃y,DataW.trod enc P w base spare held n f.type ((cs.drop f.offset).take (P.cellsOf f.type))=some y:=by
 obtain ⟨cs,rfl,hsz⟩:=okWide_struct hs hv;obtain ⟨fuel,hf⟩:=h;obtain ⟨xs,n,_,_,hlen,hl,hg⟩:=DataW.trod_struct hs hf;have hc:(Value.agg cs).cells=cs:=by simp [Value.cells]
 rw [hc] at hg;refine ⟨cs.toList,n,by simp,by simpa using hsz,fun i f hf=>?_⟩;have hi:i<xs.length:=by rw [hl];exact (Array.getElem?_eq_some_iff.1 hf).1
 exact ⟨xs[i],by rw [hg i f hf,List.getElem?_eq_getElem hi]⟩
theorem take1_drop {α:Type} (l:List α) (i:Nat) (h:i<l.length):(l.drop i).take 1=[l[i]]:=by
 rw [List.drop_eq_getElem_cons h];rfl
theorem Ce {r:Reach} {b0:Nat} {t:TypeId} {fs:Array Field} {v:Value} {d:DataW H} {p:List MemPlace} (hs:P.underlying t=some (.struct fs)) (hone:oneCellFields P fs=true) (hC:P.cellsOf t=fs.size)
  (hv:Value.okWide P w r b0 t v) (h:DataW.Trod enc P w base spare held t v d p) :
  ∃(cs:List Value) (n:Nat),v=.agg cs.toArray∧cs.length=fs.size∧∀(i:Nat) (f:Field),fs[i]?=some f→∃u y,cs[i]?=some u∧DataW.trod enc P w base spare held n f.type [u]=some y:=by
 obtain ⟨cs,n,hv,hl,hf⟩:=wV hs hv h;refine ⟨cs,n,hv,hl.trans hC,fun i f hif=>?_⟩;obtain ⟨o,c⟩:=hone_of hone i f hif;obtain ⟨y,hy⟩:=hf i f hif;have hi:i<cs.length:=by rw [hl,hC];exact (Array.getElem?_eq_some_iff.1 hif).1
 rw [o,c,take1_drop cs i hi] at hy;exact ⟨_,y,List.getElem?_eq_getElem hi,hy⟩
theorem wW {t:TypeId} {fs:Array Field} {fuel:Nat} {cs:List Value} {x:DataW H×List MemPlace} (hs:P.underlying t=some (.struct fs)) (h:DataW.trod enc P w base spare held fuel t cs=some x) :
  cs.length=P.cellsOf t∧∃n:Nat,∀(i:Nat) (f:Field),fs[i]?=some f→∃y,DataW.trod enc P w base spare held n f.type ((cs.drop f.offset).take (P.cellsOf f.type))=some y:=by
 obtain ⟨xs,n,_,_,hlen,hl,hg⟩:=DataW.trod_struct hs h;refine ⟨hlen,n,fun i f hf=>?_⟩;have hi:i<xs.length:=by rw [hl];exact (Array.getElem?_eq_some_iff.1 hf).1
 exact ⟨xs[i],by rw [hg i f hf,List.getElem?_eq_getElem hi]⟩
theorem fB {t:TypeId} {fs:Array Field} {fuel:Nat} {cs:List Value} {x:DataW H×List MemPlace} (hs:P.underlying t=some (.struct fs)) (hone:oneCellFields P fs=true) (hC:P.cellsOf t=fs.size)
  (h:DataW.trod enc P w base spare held fuel t cs=some x) :
  cs.length=fs.size∧∃n:Nat,∀(i:Nat) (f:Field),fs[i]?=some f→∃u y,cs[i]?=some u∧DataW.trod enc P w base spare held n f.type [u]=some y:=by
 obtain ⟨hl,n,hf⟩:=wW hs h;refine ⟨hl.trans hC,n,fun i f hif=>?_⟩;obtain ⟨o,c⟩:=hone_of hone i f hif;obtain ⟨y,hy⟩:=hf i f hif;have hi:i<cs.length:=by rw [hl,hC];exact (Array.getElem?_eq_some_iff.1 hif).1
 rw [o,c,take1_drop cs i hi] at hy;exact ⟨_,y,List.getElem?_eq_getElem hi,hy⟩
theorem bR {fuel:Nat} {t:TypeId} {k:IntKind} {u:Value} {y:DataW H×List MemPlace} (ht:P.underlying t=some (.int k)) (h:DataW.trod enc P w base spare held fuel t [u]=some y):∃a,u=.int k a∧(Lit.int k a).wf=true:=by
 obtain ⟨a,e,_,hw⟩:=DataW.trod_int ht h;simp at e;exact ⟨a,e,hw⟩
end
theorem Jp {α:Type} {l:List α} (h:l.length=2):∃a b,l=[a,b]:=by
 match l,h with
 | [a,b],_=>exact ⟨a,b,rfl⟩
def oI (a:Int):Prop:=-9223372036854775808≤a∧a≤9223372036854775807
theorem bQ {a:Int} (h:(Lit.int .i64 a).wf=true):oI a:=by
 simp [Lit.wf,IntKind.min,IntKind.max,IntKind.signed,IntKind.bits] at h;unfold oI;omega
structure Stp where
 lv:Int
 hold:Int
 bD:Int
instance:Inhabited Stp:=⟨⟨0,0,0⟩⟩
structure Eff where
 aJ:Int
 low:Int
 aC:Int
 ay:Int
 av:Int
 ak:Int
 aH:Bool
 rel:Bool
 jP:List Stp
def StpC (w:World) (b off:Nat) (x:Stp):Prop:=
 w.cell? ⟨b,off,none⟩=some (.int .i64 x.lv)∧w.cell? ⟨b,off+1,none⟩=some (.int .i64 x.hold)∧w.cell? ⟨b,off+2,none⟩=some (.int .i64 x.bD)
def IB (x:Stp):Prop:=oI x.lv∧oI x.hold∧oI x.bD
def StS (B:Nat) (w:World) (v:Value) (l:List Stp):Prop:=
 ∃ao cap,v=.slice ao l.length cap∧l.length≤maxLen∧(l≠[]→∃b off,ao=some ⟨b,off,none⟩∧b<B∧∀i (h:i<l.length),StpC w b (off+i*3) l[i])
def Qm (x:Eff):Prop:=(oI x.aJ∧oI x.low∧oI x.aC∧oI x.ay∧oI x.av∧oI x.ak)∧∀s∈x.jP,IB s
theorem StS.below {B:Nat} {w w':World} {v:Value} {l:List Stp} (h:StS B w v l) (hb:Below B w w'):StS B w' v l:=by
 obtain ⟨ao,cap,rfl,h1,h2⟩:=h;refine ⟨ao,cap,rfl,h1,fun hne=>?_⟩;obtain ⟨b,off,rfl,h3,h4⟩:=h2 hne;refine ⟨b,off,rfl,h3,fun i hi=>?_⟩;obtain ⟨c0,c1,c2⟩:=h4 i hi;exact ⟨(hb.cell (p:=⟨b,off+i*3,none⟩) h3).trans c0,(hb.cell (p:=⟨b,off+i*3+1,none⟩) h3).trans c1,(hb.cell (p:=⟨b,off+i*3+2,none⟩) h3).trans c2⟩
theorem StS.more {B B':Nat} {w:World} {v:Value} {l:List Stp} (h:StS B w v l) (hB:B≤B'):StS B' w v l:=by
 obtain ⟨ao,cap,rfl,h1,h2⟩:=h;refine ⟨ao,cap,rfl,h1,fun hne=>?_⟩;obtain ⟨b,off,rfl,h3,h4⟩:=h2 hne;exact ⟨b,off,rfl,Nat.lt_of_lt_of_le h3 hB,h4⟩
section
variable {H:Type} {enc:TypeId×Value→H} {w:World} {held:Bool}
theorem slist3 {α:Type} {l:List α} (h:l.length=3):∃a b c,l=[a,b,c]:=by
 match l,h with
 | [a,b,c],_=>exact ⟨a,b,c,rfl⟩
theorem slist9 {α:Type} {l:List α} (h:l.length=9):∃a b c d e f g i j,l=[a,b,c,d,e,f,g,i,j]:=by
 match l,h with
 | [a,b,c,d,e,f,g,i,j],_=>exact ⟨a,b,c,d,e,f,g,i,j,rfl⟩
theorem Gv {fuel:Nat} {cs:List Value} {x:DataW H×List MemPlace} (h:DataW.trod enc Tryz.prog w 0 (fun _=>true) held fuel 26 cs=some x) :
  ∃v l,cs=[v]∧StS w.heap.size w v l∧∀s∈l,IB s:=by
 rcases open_slice Tryz.underlying26 h with ⟨rfl,_⟩ | ⟨a,len,cap,m,n,D,Pl,rfl,_,hl,hm,hmm,_,hx⟩
 ·exact ⟨_,[],rfl,⟨none,0,rfl,Nat.zero_le _,fun h=>absurd rfl h⟩,by simp⟩
 ·simp only [if_true] at hmm;subst hmm;have c3:Tryz.prog.cellsOf 109=3:=by kernel_rfl
  have he:∀i,i<len→∃y:Stp,w.cell? (a.add (i*3))=some (.int .i64 y.lv)∧w.cell? ((a.add (i*3)).add 1)=some (.int .i64 y.hold)∧w.cell? ((a.add (i*3)).add 2)=some (.int .i64 y.bD)∧IB y:=by
   intro i hi;obtain ⟨cs',h1,h2⟩:=hx i (by omega);rw [c3] at h1;obtain ⟨_,hcl,hat⟩:=World.cells?_some h1;obtain ⟨_,n',hf⟩:=fB Tryz.underlying109 (by kernel_rfl) c3 h2;obtain ⟨u0,u1,u2,rfl⟩:=slist3 hcl;obtain ⟨x1,z1,q1,m1⟩:=hf 0 _ rfl;obtain ⟨x2,z2,q2,m2⟩:=hf 1 _ rfl;obtain ⟨x3,z3,q3,m3⟩:=hf 2 _ rfl;simp at q1 q2 q3;subst q1 q2 q3;obtain ⟨a1,rfl,w1⟩:=bR Tryz.underlying3 m1;obtain ⟨a2,rfl,w2⟩:=bR Tryz.underlying3 m2;obtain ⟨a3,rfl,w3⟩:=bR Tryz.underlying3 m3;refine ⟨⟨a1,a2,a3⟩,?_,hat 1 (by omega),hat 2 (by omega),bQ w1,bQ w2,bQ w3⟩;have:=hat 0 (by omega);simpa [Addr.add] using this
  obtain ⟨Y,hY⟩:=choose_lt he
  have hps:∀i (h:i<((List.range len).map Y).length),((List.range len).map Y)[i]=Y i:=by
   intro i h;simp
  refine ⟨_,(List.range len).map Y,rfl,⟨some a,m,by simp,by simp;omega,fun hne=>?_⟩,?_⟩
  ·have h0:0<len:=by
    rcases Nat.eq_zero_or_pos len with h0 | h0
    ·subst h0;simp at hne
    ·exact h0
   have hsp:a.spot=none:=by
    have:=World.cell?_spot (hY 0 h0).1;simpa [Addr.add] using this
   obtain ⟨b,off,spot⟩:=a;simp only at hsp;subst hsp;refine ⟨b,off,rfl,?_,?_⟩
   ·have:=World.block_lt_of_cell? w _ (hY 0 h0).1;simpa [Addr.add] using this
   ·intro i h;rw [hps i h];have hi:i<len:=by simpa using h
    obtain ⟨h1,h2,h3,_⟩:=hY i hi;rw [add_plain] at h1;rw [add_plain,add_plain] at h2 h3;exact ⟨h1,h2,h3⟩
  ·intro y hy;simp at hy;obtain ⟨i,hi,rfl⟩:=hy;exact (hY i hi).2.2.2
end
end Go.Proofs.YtopmdeefcjdadaaGreat
namespace Go.Proofs.YtopmdeefcjdadaaGreat
open Go.RowKit
def aW (B:Nat) (w:World) (v:Value) (n:Nat) (xs:List Value):Prop:=
 ∃ao cap,v=.slice ao n cap∧n≤cap∧cap≤maxLen∧(0<n→∃b off,ao=some ⟨b,off,none⟩∧b<B∧∀j u,xs[j]?=some u→w.cell? ⟨b,off+j,none⟩=some u)
theorem aW.below {B:Nat} {w w':World} {v:Value} {n:Nat} {xs:List Value} (h:aW B w v n xs) (hb:Below B w w'):aW B w' v n xs:=by
 obtain ⟨ao,cap,rfl,h1,h2,h3⟩:=h;refine ⟨ao,cap,rfl,h1,h2,fun hl=>?_⟩;obtain ⟨b,off,rfl,h4,h5⟩:=h3 hl;exact ⟨b,off,rfl,h4,fun j u hu=>(hb.cell (p:=⟨b,off+j,none⟩) h4).trans (h5 j u hu)⟩
theorem aW.more {B B':Nat} {w:World} {v:Value} {n:Nat} {xs:List Value} (h:aW B w v n xs) (hB:B≤B'):aW B' w v n xs:=by
 obtain ⟨ao,cap,rfl,h1,h2,h3⟩:=h;refine ⟨ao,cap,rfl,h1,h2,fun hl=>?_⟩;obtain ⟨b,off,rfl,h4,h5⟩:=h3 hl;exact ⟨b,off,rfl,Nat.lt_of_lt_of_le h4 hB,h5⟩
theorem aW.nil (B:Nat) (w:World):aW B w (.slice none 0 0) 0 []:=⟨none,0,rfl,Nat.le_refl _,Nat.zero_le _,fun h=>absurd h (Nat.lt_irrefl _)⟩
theorem aW.cast {B:Nat} {w w':World} {v:Value} {n:Nat} {xs:List Value} (h:aW B w v n xs) (hc:∀b off,b<B→w'.cell? ⟨b,off,none⟩=w.cell? ⟨b,off,none⟩):aW B w' v n xs:=by
 obtain ⟨ao,cap,rfl,h1,h2,h3⟩:=h;refine ⟨ao,cap,rfl,h1,h2,fun hl=>?_⟩;obtain ⟨b,off,rfl,h4,h5⟩:=h3 hl;exact ⟨b,off,rfl,h4,fun j u hu=>(hc b _ h4).trans (h5 j u hu)⟩
theorem jf (b off j:Nat):(⟨b,off,none⟩:Addr).add j=⟨b,off+j,none⟩:=by unfold Addr.add;split<;>simp_all
theorem aW.tK {base:Nat} {w:World} {T:TypeId} {size:Nat} {v:Value} {n:Nat} {xs:List Value} (h:w.ownsRow base T size v n xs):aW w.heap.size w v n xs:=by
 rcases h.2 with ⟨rfl,h0⟩ | ⟨g,cap,cur,rfl,hb,hg,h1,h2,h3,h4⟩
 ·subst h0;exact ⟨none,0,rfl,Nat.le_refl _,Nat.zero_le _,fun h=>absurd h (Nat.lt_irrefl _)⟩
 ·refine ⟨some ⟨g,0,none⟩,cap,rfl,h1,h2,fun _=>⟨g,0,rfl,(Array.getElem?_eq_some_iff.1 hg).1,fun j u hu=>?_⟩⟩;have:=h.cells (g:=g) rfl j u hu;rw [jf] at this;exact this
def kY {α:Type} (f g:α→Value) (l:List α):List Value:=l.flatMap fun y=>[f y,g y]
theorem sQ {α:Type} (f g:α→Value) (l:List α):(kY f g l).length=l.length*2:=by
 induction l with
 | nil=>rfl
 | cons a l ih=>simp [kY] at *;omega
theorem Fe {α:Type} (f g:α→Value) (l:List α) (k:Nat):(kY f g l).take (k*2)=kY f g (l.take k):=by
 induction l generalizing k with
 | nil=>simp [kY]
 | cons a l ih=>
  match k with
  | 0=>simp [kY]
  | k+1=>
   have:=ih k;rw [show (k+1)*2=k*2+2 by omega];simp [kY] at *;exact this
theorem iW {α:Type} (f g:α→Value) (l:List α) (i:Nat) (h:i<l.length):(kY f g l)[i*2]?=some (f l[i])∧(kY f g l)[i*2+1]?=some (g l[i]):=by
 induction l generalizing i with
 | nil=>simp at h
 | cons a l ih=>
  match i with
  | 0=>simp [kY]
  | i+1=>
   have:=ih i (by simpa using h);have e1:(i+1)*2=i*2+2:=by omega
   rw [e1,show i*2+2+1=i*2+1+2 by omega];simp only [kY,List.flatMap_cons,List.cons_append,List.nil_append,List.getElem?_cons_succ,List.getElem_cons_succ] at *;exact this
end Go.Proofs.YtopmdeefcjdadaaGreat
namespace Go.Proofs.YtopmdeefcjdadaaGreat
open Go.ChangeShapes Go.WideShapes Go.RowKit Go.Deep
def iX (k:Int×ByteArray):Prop:=oI k.1∧k.2.size≤maxLen
def lQ (k:Int×ByteArray):Lit:=.string (keyBytes [.int .i64 k.1,.string k.2.data.toList])
def yY (k:Int×ByteArray):Value:=.agg #[.int .i64 k.1,.string k.2]
theorem Br:Tryz.prog.cellsOf 3=1:=by kernel_rfl
theorem Cv:Tryz.prog.cellsOf 9=1:=by kernel_rfl
theorem Om:laidOutB Tryz.prog=true:=by kernel_rfl
theorem Jq:(40:TypeId)<Tryz.prog.types.size:=of_decide_eq_true (by kernel_rfl)
theorem keyAt2_:Tryz.prog.keyTypeAt 2 40=true:=by kernel_rfl
theorem Oq:(match Tryz.prog.underlying 40 with | some (.array _ _) | some (.struct _)=>true | _=>false)=true:=by kernel_rfl
theorem keyLaw_:WideMaps.KeyLaw Tryz.prog 40:=deep_law_laid Om (m:=2) (by omega) Jq keyAt2_ Oq
theorem mQ:Maps.Keyed Tryz.prog 40:=Maps.Keyed.of_law keyLaw_
theorem Ot:Tryz.prog.keyType 40=true:=by kernel_rfl
theorem Bd:Tryz.prog.cellsOf 40=2:=by kernel_rfl
theorem i64_wf {a:Int} (h:oI a):(Lit.int .i64 a).wf=true:=by
 unfold oI at h;simp [Lit.wf,IntKind.min,IntKind.max,IntKind.signed,IntKind.bits];omega
theorem Ou (d:Nat) {k:Int×ByteArray} (h:iX k):Tryz.prog.keyLits (d+2) 40 [.int .i64 k.1,.string k.2]=some [.int .i64 k.1,.string k.2.data.toList]:=by
 obtain ⟨h1,h2⟩:=h;have hw:=i64_wf h1;unfold Program.keyLits;rw [Tryz.underlying40];simp [Bd,Br,Program.keyLits,Tryz.underlying3,Tryz.underlying9,hw,h2,Cv]
theorem Hg (k:Int×ByteArray):(yY k).formed Tryz.prog 40=true:=by
 unfold yY Value.formed;rw [Tryz.underlying40];simp [Bd]
theorem jR {k:Int×ByteArray} (h:iX k):keyOf Tryz.prog 40 (yY k)=some (lQ k):=by
 unfold keyOf;rw [Tryz.underlying40];simp only [Ot,Hg,Bool.and_self,if_true]
 obtain ⟨d,hd⟩:∃d,Tryz.prog.types.size+1=d+2:=by
  have h0:(40:Nat)<Tryz.prog.types.size:=Jq;generalize Tryz.prog.types.size=n at h0 ⊢;exact ⟨n-1,by omega⟩
 rw [hd,show (yY k).cells.toList=[.int .i64 k.1,.string k.2] from rfl,Ou d h];rfl
theorem ze {a b:Int×ByteArray} (ha:iX a) (hb:iX b) (h:lQ a=lQ b):a=b:=by
 have h1:=jR ha;have h2:=jR hb;rw [←h] at h2;have h3:=mQ.inj h1 h2;unfold yY at h3;simp at h3;obtain ⟨x,y⟩:=a;obtain ⟨z,u⟩:=b;obtain ⟨h4,h5⟩:=h3;simp at h4 h5;rw [h4,h5]
structure Run where
 ef:Eff
 aN:List (Int×ByteArray)
 aA:Int
 aI:List (Int×Int)
 bO:Int
 aM:Int
 aO:Int
def mR (l:List (Int×ByteArray)):List Value:=kY (fun k:Int×ByteArray=>Value.int .i64 k.1) (fun k=>.string k.2) l
def BR (l:List (Int×Int)):List Value:=kY (fun k:Int×Int=>Value.int .i64 k.1) (fun k=>.int .i64 k.2) l
def KeyS (B:Nat) (w:World) (v:Value) (l:List (Int×ByteArray)):Prop:=aW B w v l.length (mR l)
def zG (B:Nat) (w:World) (v:Value) (l:List (Int×Int)):Prop:=aW B w v l.length (BR l)
def Dc (k:Int×Int):Prop:=oI k.1∧oI k.2
def ru (x:Run):Prop:=Qm x.ef∧(∀k∈x.aN,iX k)∧(∀k∈x.aI,Dc k)∧oI x.aA∧oI x.bO∧oI x.aM∧oI x.aO
def pX (x:Run) (sv kv rv:Value):Value:=.agg #[.int .i64 x.ef.aJ,.int .i64 x.ef.low,.int .i64 x.ef.aC,.int .i64 x.ef.ay,.int .i64 x.ef.av,.int .i64 x.ef.ak,.bool x.ef.aH,.bool x.ef.rel,sv,kv,.int .i64 x.aA,rv,.int .i64 x.bO,.int .i64 x.aM,.int .i64 x.aO]
structure mY (B:Nat) (w:World) (x:Run) (sv kv rv:Value):Prop where
 jP:StS B w sv x.ef.jP
 aN:KeyS B w kv x.aN
 aI:zG B w rv x.aI
theorem mY.below {B:Nat} {w w':World} {x:Run} {sv kv rv:Value} (h:mY B w x sv kv rv) (hb:Below B w w'):mY B w' x sv kv rv:=⟨h.jP.below hb,aW.below h.aN hb,aW.below h.aI hb⟩
theorem mY.more {B B':Nat} {w:World} {x:Run} {sv kv rv:Value} (h:mY B w x sv kv rv) (hB:B≤B'):mY B' w x sv kv rv:=⟨h.jP.more hB,aW.more h.aN hB,aW.more h.aI hB⟩
section
variable {H:Type} {enc:TypeId×Value→H} {w:World} {held:Bool}
theorem slist15 {α:Type} {l:List α} (h:l.length=15):∃a b c d e f g i j k m n o p q,l=[a,b,c,d,e,f,g,i,j,k,m,n,o,p,q]:=by
 match l,h with
 | [a,b,c,d,e,f,g,i,j,k,m,n,o,p,q],_=>exact ⟨a,b,c,d,e,f,g,i,j,k,m,n,o,p,q,rfl⟩
theorem Ki {fuel:Nat} {cs:List Value} {x:DataW H×List MemPlace} (h:DataW.trod enc Tryz.prog w 0 (fun _=>true) held fuel 29 cs=some x) :
  ∃v l,cs=[v]∧KeyS w.heap.size w v l∧∀s∈l,iX s:=by
 rcases open_slice Tryz.underlying29 h with ⟨rfl,_⟩ | ⟨a,len,cap,m,n,D,Pl,rfl,_,hl,hm,hmm,_,hx⟩
 ·exact ⟨_,[],rfl,aW.nil _ _,by simp⟩
 ·simp only [if_true] at hmm;subst hmm;have c3:Tryz.prog.cellsOf 40=2:=by kernel_rfl
  have he:∀i,i<len→∃y:Int×ByteArray,w.cell? (a.add (i*2))=some (.int .i64 y.1)∧w.cell? ((a.add (i*2)).add 1)=some (.string y.2)∧iX y:=by
   intro i hi;obtain ⟨cs',h1,h2⟩:=hx i (by omega);rw [c3] at h1;obtain ⟨_,hcl,hat⟩:=World.cells?_some h1;obtain ⟨_,n',hf⟩:=fB Tryz.underlying40 (by kernel_rfl) c3 h2;obtain ⟨u0,u1,rfl⟩:=Jp hcl;obtain ⟨x1,z1,q1,m1⟩:=hf 0 _ rfl;obtain ⟨x2,z2,q2,m2⟩:=hf 1 _ rfl;simp at q1 q2;subst q1 q2;obtain ⟨a1,rfl,w1⟩:=bR Tryz.underlying3 m1;obtain ⟨a2,e2,_,w2⟩:=DataW.trod_string Tryz.underlying9 m2;simp at e2;subst e2;refine ⟨⟨a1,a2⟩,?_,hat 1 (by omega),bQ w1,w2⟩;have:=hat 0 (by omega);simpa [Addr.add] using this
  obtain ⟨Y,hY⟩:=choose_lt he;refine ⟨_,(List.range len).map Y,rfl,⟨some a,m,by simp,by simpa using hl,hm,fun hpos=>?_⟩,?_⟩
  ·have h0:0<len:=by simpa using hpos
   have hsp:a.spot=none:=by
    have:=World.cell?_spot (hY 0 h0).1;simpa [Addr.add] using this
   obtain ⟨b,off,spot⟩:=a;simp only at hsp;subst hsp;refine ⟨b,off,rfl,?_,fun j u hu=>?_⟩
   ·have:=World.block_lt_of_cell? w _ (hY 0 h0).1;simpa [Addr.add] using this
   ·have hj:j<(mR ((List.range len).map Y)).length:=(List.getElem?_eq_some_iff.1 hu).1;rw [show (mR ((List.range len).map Y)).length=len*2 by unfold mR;rw [sQ];simp] at hj;have hi:j / 2<len:=by omega
    obtain ⟨g1,g2⟩:=iW (fun k:Int×ByteArray=>Value.int .i64 k.1) (fun k=>.string k.2) ((List.range len).map Y) (j / 2) (by simpa using hi);obtain ⟨c1,c2,_⟩:=hY (j / 2) hi;rw [jf] at c1;rw [jf,jf] at c2;simp only [List.getElem_map,List.getElem_range] at g1 g2;rcases Nat.mod_two_eq_zero_or_one j with e | e
    ·have:j=j / 2*2:=by omega
     rw [this] at hu ⊢;obtain rfl:=Option.some.inj (g1.symm.trans hu);exact c1
    ·have:j=j / 2*2+1:=by omega
     rw [this] at hu ⊢;obtain rfl:=Option.some.inj (g2.symm.trans hu);exact c2
  ·intro y hy;simp at hy;obtain ⟨i,hi,rfl⟩:=hy;exact (hY i hi).2.2
theorem Gw {fuel:Nat} {cs:List Value} {x:DataW H×List MemPlace} (h:DataW.trod enc Tryz.prog w 0 (fun _=>true) held fuel 30 cs=some x) :
  ∃v l,cs=[v]∧zG w.heap.size w v l∧∀s∈l,Dc s:=by
 rcases open_slice Tryz.underlying30 h with ⟨rfl,_⟩ | ⟨a,len,cap,m,n,D,Pl,rfl,_,hl,hm,hmm,_,hx⟩
 ·exact ⟨_,[],rfl,aW.nil _ _,by simp⟩
 ·simp only [if_true] at hmm;subst hmm;have c3:Tryz.prog.cellsOf 85=2:=by kernel_rfl
  have he:∀i,i<len→∃y:Int×Int,w.cell? (a.add (i*2))=some (.int .i64 y.1)∧w.cell? ((a.add (i*2)).add 1)=some (.int .i64 y.2)∧Dc y:=by
   intro i hi;obtain ⟨cs',h1,h2⟩:=hx i (by omega);rw [c3] at h1;obtain ⟨_,hcl,hat⟩:=World.cells?_some h1;obtain ⟨_,n',hf⟩:=fB Tryz.underlying85 (by kernel_rfl) c3 h2;obtain ⟨u0,u1,rfl⟩:=Jp hcl;obtain ⟨x1,z1,q1,m1⟩:=hf 0 _ rfl;obtain ⟨x2,z2,q2,m2⟩:=hf 1 _ rfl;simp at q1 q2;subst q1 q2;obtain ⟨a1,rfl,w1⟩:=bR Tryz.underlying3 m1;obtain ⟨a2,rfl,w2⟩:=bR Tryz.underlying3 m2;refine ⟨⟨a1,a2⟩,?_,hat 1 (by omega),bQ w1,bQ w2⟩;have:=hat 0 (by omega);simpa [Addr.add] using this
  obtain ⟨Y,hY⟩:=choose_lt he;refine ⟨_,(List.range len).map Y,rfl,⟨some a,m,by simp,by simpa using hl,hm,fun hpos=>?_⟩,?_⟩
  ·have h0:0<len:=by simpa using hpos
   have hsp:a.spot=none:=by
    have:=World.cell?_spot (hY 0 h0).1;simpa [Addr.add] using this
   obtain ⟨b,off,spot⟩:=a;simp only at hsp;subst hsp;refine ⟨b,off,rfl,?_,fun j u hu=>?_⟩
   ·have:=World.block_lt_of_cell? w _ (hY 0 h0).1;simpa [Addr.add] using this
   ·have hj:j<(BR ((List.range len).map Y)).length:=(List.getElem?_eq_some_iff.1 hu).1;rw [show (BR ((List.range len).map Y)).length=len*2 by unfold BR;rw [sQ];simp] at hj;have hi:j / 2<len:=by omega
    obtain ⟨g1,g2⟩:=iW (fun k:Int×Int=>Value.int .i64 k.1) (fun k=>.int .i64 k.2) ((List.range len).map Y) (j / 2) (by simpa using hi);obtain ⟨c1,c2,_⟩:=hY (j / 2) hi;rw [jf] at c1;rw [jf,jf] at c2;simp only [List.getElem_map,List.getElem_range] at g1 g2;rcases Nat.mod_two_eq_zero_or_one j with e | e
    ·have:j=j / 2*2:=by omega
     rw [this] at hu ⊢;obtain rfl:=Option.some.inj (g1.symm.trans hu);exact c1
    ·have:j=j / 2*2+1:=by omega
     rw [this] at hu ⊢;obtain rfl:=Option.some.inj (g2.symm.trans hu);exact c2
  ·intro y hy;simp at hy;obtain ⟨i,hi,rfl⟩:=hy;exact (hY i hi).2.2
theorem Ef {fuel:Nat} {cs:List Value} {x:DataW H×List MemPlace} (h:DataW.trod enc Tryz.prog w 0 (fun _=>true) held fuel 28 cs=some x) :
  ∃(y:Eff) (sv:Value),cs=[.int .i64 y.aJ,.int .i64 y.low,.int .i64 y.aC,.int .i64 y.ay,.int .i64 y.av,.int .i64 y.ak,.bool y.aH,.bool y.rel,sv]∧StS w.heap.size w sv y.jP∧Qm y:=by
 have hc:Tryz.prog.cellsOf 28=9:=by kernel_rfl
 obtain ⟨hl,n,hf⟩:=fB Tryz.underlying28 (by kernel_rfl) hc h;obtain ⟨u0,u1,u2,u3,u4,u5,u6,u7,u8,rfl⟩:=slist9 hl;obtain ⟨x0,y0,q0,k0⟩:=hf 0 _ rfl;obtain ⟨x1,y1,q1,k1⟩:=hf 1 _ rfl;obtain ⟨x2,y2,q2,k2⟩:=hf 2 _ rfl;obtain ⟨x3,y3,q3,k3⟩:=hf 3 _ rfl;obtain ⟨x4,y4,q4,k4⟩:=hf 4 _ rfl;obtain ⟨x5,y5,q5,k5⟩:=hf 5 _ rfl;obtain ⟨x6,y6,q6,k6⟩:=hf 6 _ rfl;obtain ⟨x7,y7,q7,k7⟩:=hf 7 _ rfl;obtain ⟨x8,y8,q8,k8⟩:=hf 8 _ rfl;simp at q0 q1 q2 q3 q4 q5 q6 q7 q8;subst q0 q1 q2 q3 q4 q5 q6 q7 q8;obtain ⟨a0,rfl,w0⟩:=bR Tryz.underlying3 k0;obtain ⟨a1,rfl,w1⟩:=bR Tryz.underlying3 k1;obtain ⟨a2,rfl,w2⟩:=bR Tryz.underlying3 k2;obtain ⟨a3,rfl,w3⟩:=bR Tryz.underlying3 k3;obtain ⟨a4,rfl,w4⟩:=bR Tryz.underlying3 k4;obtain ⟨a5,rfl,w5⟩:=bR Tryz.underlying3 k5;obtain ⟨a6,e6,_⟩:=DataW.trod_bool Tryz.underlying4 k6;simp at e6;subst e6;obtain ⟨a7,e7,_⟩:=DataW.trod_bool Tryz.underlying4 k7;simp at e7;subst e7;obtain ⟨v8,l8,e8,h8,f8⟩:=Gv k8;simp at e8;subst e8;exact ⟨⟨a0,a1,a2,a3,a4,a5,a6,a7,l8⟩,_,rfl,h8,⟨bQ w0,bQ w1,bQ w2,bQ w3,bQ w4,bQ w5⟩,f8⟩
theorem Cw:Tryz.prog.cellsOf 28=9:=by kernel_rfl
theorem Ip:Tryz.prog.cellsOf 29=1:=by kernel_rfl
theorem Fb:Tryz.prog.cellsOf 30=1:=by kernel_rfl
theorem Af:Tryz.prog.cellsOf 32=15:=by kernel_rfl
def RunV (w:World) (v:Value):Prop:=∃(x:Run) (sv kv rv:Value),v=pX x sv kv rv∧mY w.heap.size w x sv kv rv∧ru x
theorem open_running {r:Reach} {b0:Nat} {v:Value} {d:DataW H} {p:List MemPlace} (hv:Value.okWide Tryz.prog w r b0 32 v) (h:DataW.Trod enc Tryz.prog w 0 (fun _=>true) held 32 v d p) :
  ∃a:Value,v=a∧RunV w a:=by
 obtain ⟨cs,n,rfl,hl,hf⟩:=wV Tryz.underlying32 hv h;rw [Af] at hl;obtain ⟨u0,u1,u2,u3,u4,u5,u6,u7,u8,u9,u10,u11,u12,u13,u14,rfl⟩:=slist15 hl;obtain ⟨y0,k0⟩:=hf 0 _ rfl;obtain ⟨y1,k1⟩:=hf 1 _ rfl;obtain ⟨y2,k2⟩:=hf 2 _ rfl;obtain ⟨y3,k3⟩:=hf 3 _ rfl;obtain ⟨y4,k4⟩:=hf 4 _ rfl;obtain ⟨y5,k5⟩:=hf 5 _ rfl;obtain ⟨y6,k6⟩:=hf 6 _ rfl;simp only [List.getElem_toArray,List.getElem_cons_zero,List.getElem_cons_succ,Br,Cw,Ip,Fb,List.drop_zero,List.drop_succ_cons,List.take_succ_cons,List.take_zero] at k0 k1 k2 k3 k4 k5 k6;obtain ⟨y,sv,e0,h0,f0⟩:=Ef k0;simp at e0;obtain ⟨rfl,rfl,rfl,rfl,rfl,rfl,rfl,rfl,rfl⟩:=e0;obtain ⟨kv,kl,e1,h1,f1⟩:=Ki k1;simp at e1;subst e1;obtain ⟨a2,rfl,w2⟩:=bR Tryz.underlying3 k2;obtain ⟨rv,rl,e3,h3,f3⟩:=Gw k3;simp at e3;subst e3;obtain ⟨a4,rfl,w4⟩:=bR Tryz.underlying3 k4;obtain ⟨a5,rfl,w5⟩:=bR Tryz.underlying3 k5;obtain ⟨a6,rfl,w6⟩:=bR Tryz.underlying3 k6;exact ⟨_,rfl,⟨y,kl,a2,rl,a4,a5,a6⟩,_,_,_,rfl,⟨h0,h1,h3⟩,f0,f1,f3,bQ w2,bQ w4,bQ w5,bQ w6⟩
end
end Go.Proofs.YtopmdeefcjdadaaGreat
