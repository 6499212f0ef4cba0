import Derived.Test.YtopmdeefcjdadaaGreatT42M00
import Derived.Test.YtopmdeefcjdadaaGreatProg
import Derived.WalkKit
import Derived.ProofKit
import Derived.OpenShut
import Derived.Deep.Slices
import Derived.Deep.Fields
import Derived.Below
import Derived.Laws.AppendOwn
import Derived.MapViews
import Derived.DeepKeys4
import Derived.Maps.Keyed
import Derived.WalkSpells
import Derived.WalkLawsBesides
import Derived.Lib.Hide
import Derived.Test.YtopmdeefcjdadaaGreatShelf
import Derived.Shelf.Spec.BitsCarry
import Derived.Deep.RegionHeld3
set_option linter.unusedVariables false
set_option linter.unusedSimpArgs false
set_option maxRecDepth 100000
set_option maxHeartbeats 32000000
namespace Go.Proofs.YtopmdeefcjdadaaGreat
open Go.ChangeShapes Go.WideShapes Go.RowKit Go.Deep
section
variable {H:Type} {enc:TypeId×Value→H} {P:Program} {w:World} {base:Nat} {spare:Nat→Bool} {held:Bool}
theorem FK {r:Reach} {b0:Nat} {t:TypeId} {fs:Array Field} {v:Value} {d:DataW H} {p:List MemPlace} (hs:P.underlying t=some (.struct fs))
  (hv:Value.okWide P w r b0 t v) (h:DataW.Trod enc P w base spare held t v d p) :
  ∃(cs:List Value) (n:Nat),v=.agg cs.toArray∧cs.length=P.cellsOf t∧∀(i:Nat) (f:Field),fs[i]?=some f→∃y,DataW.trod enc P w base spare held n f.type ((cs.drop f.offset).take (P.cellsOf f.type))=some y:=by
 obtain ⟨cs,rfl,hsz⟩:=okWide_struct hs hv;obtain ⟨fuel,hf⟩:=h;obtain ⟨xs,n,_,_,hlen,hl,hg⟩:=DataW.trod_struct hs hf;have hc:(Value.agg cs).cells=cs:=by simp [Value.cells]
 rw [hc] at hg;refine ⟨cs.toList,n,by simp,by simpa using hsz,fun i f hf=>?_⟩;have hi:i<xs.length:=by rw [hl];exact (Array.getElem?_eq_some_iff.1 hf).1
 exact ⟨xs[i],by rw [hg i f hf,List.getElem?_eq_getElem hi]⟩
theorem take1_drop {α:Type} (l:List α) (i:Nat) (h:i<l.length):(l.drop i).take 1=[l[i]]:=by
 rw [List.drop_eq_getElem_cons h];rfl
theorem DR {r:Reach} {b0:Nat} {t:TypeId} {fs:Array Field} {v:Value} {d:DataW H} {p:List MemPlace} (hs:P.underlying t=some (.struct fs)) (hone:oneCellFields P fs=true) (hC:P.cellsOf t=fs.size)
  (hv:Value.okWide P w r b0 t v) (h:DataW.Trod enc P w base spare held t v d p) :
  ∃(cs:List Value) (n:Nat),v=.agg cs.toArray∧cs.length=fs.size∧∀(i:Nat) (f:Field),fs[i]?=some f→∃u y,cs[i]?=some u∧DataW.trod enc P w base spare held n f.type [u]=some y:=by
 obtain ⟨cs,n,hv,hl,hf⟩:=FK hs hv h;refine ⟨cs,n,hv,hl.trans hC,fun i f hif=>?_⟩;obtain ⟨o,c⟩:=hone_of hone i f hif;obtain ⟨y,hy⟩:=hf i f hif;have hi:i<cs.length:=by rw [hl,hC];exact (Array.getElem?_eq_some_iff.1 hif).1
 rw [o,c,take1_drop cs i hi] at hy;exact ⟨_,y,List.getElem?_eq_getElem hi,hy⟩
theorem rU {t:TypeId} {fs:Array Field} {fuel:Nat} {cs:List Value} {x:DataW H×List MemPlace} (hs:P.underlying t=some (.struct fs)) (h:DataW.trod enc P w base spare held fuel t cs=some x) :
  cs.length=P.cellsOf t∧∃n:Nat,∀(i:Nat) (f:Field),fs[i]?=some f→∃y,DataW.trod enc P w base spare held n f.type ((cs.drop f.offset).take (P.cellsOf f.type))=some y:=by
 obtain ⟨xs,n,_,_,hlen,hl,hg⟩:=DataW.trod_struct hs h;refine ⟨hlen,n,fun i f hf=>?_⟩;have hi:i<xs.length:=by rw [hl];exact (Array.getElem?_eq_some_iff.1 hf).1
 exact ⟨xs[i],by rw [hg i f hf,List.getElem?_eq_getElem hi]⟩
theorem fI {t:TypeId} {fs:Array Field} {fuel:Nat} {cs:List Value} {x:DataW H×List MemPlace} (hs:P.underlying t=some (.struct fs)) (hone:oneCellFields P fs=true) (hC:P.cellsOf t=fs.size)
  (h:DataW.trod enc P w base spare held fuel t cs=some x) :
  cs.length=fs.size∧∃n:Nat,∀(i:Nat) (f:Field),fs[i]?=some f→∃u y,cs[i]?=some u∧DataW.trod enc P w base spare held n f.type [u]=some y:=by
 obtain ⟨hl,n,hf⟩:=rU hs h;refine ⟨hl.trans hC,n,fun i f hif=>?_⟩;obtain ⟨o,c⟩:=hone_of hone i f hif;obtain ⟨y,hy⟩:=hf i f hif;have hi:i<cs.length:=by rw [hl,hC];exact (Array.getElem?_eq_some_iff.1 hif).1
 rw [o,c,take1_drop cs i hi] at hy;exact ⟨_,y,List.getElem?_eq_getElem hi,hy⟩
theorem bU {fuel:Nat} {t:TypeId} {k:IntKind} {u:Value} {y:DataW H×List MemPlace} (ht:P.underlying t=some (.int k)) (h:DataW.trod enc P w base spare held fuel t [u]=some y):∃a,u=.int k a∧(Lit.int k a).wf=true:=by
 obtain ⟨a,e,_,hw⟩:=DataW.trod_int ht h;simp at e;exact ⟨a,e,hw⟩
end
theorem Kt {α:Type} {l:List α} (h:l.length=2):∃a b,l=[a,b]:=by
 match l,h with
 | [a,b],_=>exact ⟨a,b,rfl⟩
def pK (a:Int):Prop:=-9223372036854775808≤a∧a≤9223372036854775807
theorem bT {a:Int} (h:(Lit.int .i64 a).wf=true):pK a:=by
 simp [Lit.wf,IntKind.min,IntKind.max,IntKind.signed,IntKind.bits] at h;unfold pK;omega
structure Stp where
 lv:Int
 hold:Int
 bG:Int
instance:Inhabited Stp:=⟨⟨0,0,0⟩⟩
structure Eff where
 aK:Int
 low:Int
 aD:Int
 aA:Int
 ay:Int
 ak:Int
 aI:Bool
 rel:Bool
 jV:List Stp
def StpC (w:World) (b off:Nat) (x:Stp):Prop:=
 w.cell? ⟨b,off,none⟩=some (.int .i64 x.lv)∧w.cell? ⟨b,off+1,none⟩=some (.int .i64 x.hold)∧w.cell? ⟨b,off+2,none⟩=some (.int .i64 x.bG)
def JK (x:Stp):Prop:=pK x.lv∧pK x.hold∧pK x.bG
def StS (B:Nat) (w:World) (v:Value) (l:List Stp):Prop:=
 ∃ao cap,v=.slice ao l.length cap∧l.length≤maxLen∧(l≠[]→∃b off,ao=some ⟨b,off,none⟩∧b<B∧∀i (h:i<l.length),StpC w b (off+i*3) l[i])
def R8 (x:Eff):Prop:=(pK x.aK∧pK x.low∧pK x.aD∧pK x.aA∧pK x.ay∧pK x.ak)∧∀s∈x.jV,JK s
theorem StS.below {B:Nat} {w w':World} {v:Value} {l:List Stp} (h:StS B w v l) (hb:Below B w w'):StS B w' v l:=by
 obtain ⟨ao,cap,rfl,h1,h2⟩:=h;refine ⟨ao,cap,rfl,h1,fun hne=>?_⟩;obtain ⟨b,off,rfl,h3,h4⟩:=h2 hne;refine ⟨b,off,rfl,h3,fun i hi=>?_⟩;obtain ⟨c0,c1,c2⟩:=h4 i hi;exact ⟨(hb.cell (p:=⟨b,off+i*3,none⟩) h3).trans c0,(hb.cell (p:=⟨b,off+i*3+1,none⟩) h3).trans c1,(hb.cell (p:=⟨b,off+i*3+2,none⟩) h3).trans c2⟩
theorem StS.more {B B':Nat} {w:World} {v:Value} {l:List Stp} (h:StS B w v l) (hB:B≤B'):StS B' w v l:=by
 obtain ⟨ao,cap,rfl,h1,h2⟩:=h;refine ⟨ao,cap,rfl,h1,fun hne=>?_⟩;obtain ⟨b,off,rfl,h3,h4⟩:=h2 hne;exact ⟨b,off,rfl,Nat.lt_of_lt_of_le h3 hB,h4⟩
section
variable {H:Type} {enc:TypeId×Value→H} {w:World} {held:Bool}
theorem slist3 {α:Type} {l:List α} (h:l.length=3):∃a b c,l=[a,b,c]:=by
 match l,h with
 | [a,b,c],_=>exact ⟨a,b,c,rfl⟩
theorem slist9 {α:Type} {l:List α} (h:l.length=9):∃a b c d e f g i j,l=[a,b,c,d,e,f,g,i,j]:=by
 match l,h with
 | [a,b,c,d,e,f,g,i,j],_=>exact ⟨a,b,c,d,e,f,g,i,j,rfl⟩
theorem Ir {fuel:Nat} {cs:List Value} {x:DataW H×List MemPlace} (h:DataW.trod enc Tryz.prog w 0 (fun _=>true) held fuel 26 cs=some x) :
  ∃v l,cs=[v]∧StS w.heap.size w v l∧∀s∈l,JK s:=by
 rcases open_slice Tryz.underlying26 h with ⟨rfl,_⟩ | ⟨a,len,cap,m,n,D,Pl,rfl,_,hl,hm,hmm,_,hx⟩
 ·exact ⟨_,[],rfl,⟨none,0,rfl,Nat.zero_le _,fun h=>absurd rfl h⟩,by simp⟩
 ·simp only [if_true] at hmm;subst hmm;have c3:Tryz.prog.cellsOf 109=3:=by kernel_rfl
  have he:∀i,i<len→∃y:Stp,w.cell? (a.add (i*3))=some (.int .i64 y.lv)∧w.cell? ((a.add (i*3)).add 1)=some (.int .i64 y.hold)∧w.cell? ((a.add (i*3)).add 2)=some (.int .i64 y.bG)∧JK y:=by
   intro i hi;obtain ⟨cs',h1,h2⟩:=hx i (by omega);rw [c3] at h1;obtain ⟨_,hcl,hat⟩:=World.cells?_some h1;obtain ⟨_,n',hf⟩:=fI Tryz.underlying109 (by kernel_rfl) c3 h2;obtain ⟨u0,u1,u2,rfl⟩:=slist3 hcl;obtain ⟨x1,z1,q1,m1⟩:=hf 0 _ rfl;obtain ⟨x2,z2,q2,m2⟩:=hf 1 _ rfl;obtain ⟨x3,z3,q3,m3⟩:=hf 2 _ rfl;simp at q1 q2 q3;subst q1 q2 q3;obtain ⟨a1,rfl,w1⟩:=bU Tryz.underlying3 m1;obtain ⟨a2,rfl,w2⟩:=bU Tryz.underlying3 m2;obtain ⟨a3,rfl,w3⟩:=bU Tryz.underlying3 m3;refine ⟨⟨a1,a2,a3⟩,?_,hat 1 (by omega),hat 2 (by omega),bT w1,bT w2,bT w3⟩;have:=hat 0 (by omega);simpa [Addr.add] using this
  obtain ⟨Y,hY⟩:=choose_lt he
  have hps:∀i (h:i<((List.range len).map Y).length),((List.range len).map Y)[i]=Y i:=by
   intro i h;simp
  refine ⟨_,(List.range len).map Y,rfl,⟨some a,m,by simp,by simp;omega,fun hne=>?_⟩,?_⟩
  ·have h0:0<len:=by
    rcases Nat.eq_zero_or_pos len with h0 | h0
    ·subst h0;simp at hne
    ·exact h0
   have hsp:a.spot=none:=by
    have:=World.cell?_spot (hY 0 h0).1;simpa [Addr.add] using this
   obtain ⟨b,off,spot⟩:=a;simp only at hsp;subst hsp;refine ⟨b,off,rfl,?_,?_⟩
   ·have:=World.block_lt_of_cell? w _ (hY 0 h0).1;simpa [Addr.add] using this
   ·intro i h;rw [hps i h];have hi:i<len:=by simpa using h
    obtain ⟨h1,h2,h3,_⟩:=hY i hi;rw [add_plain] at h1;rw [add_plain,add_plain] at h2 h3;exact ⟨h1,h2,h3⟩
  ·intro y hy;simp at hy;obtain ⟨i,hi,rfl⟩:=hy;exact (hY i hi).2.2.2
end
end Go.Proofs.YtopmdeefcjdadaaGreat
namespace Go.Proofs.YtopmdeefcjdadaaGreat
open Go.RowKit
def aW (B:Nat) (w:World) (v:Value) (n:Nat) (xs:List Value):Prop:=
 ∃ao cap,v=.slice ao n cap∧n≤cap∧cap≤maxLen∧(0<n→∃b off,ao=some ⟨b,off,none⟩∧b<B∧∀j u,xs[j]?=some u→w.cell? ⟨b,off+j,none⟩=some u)
theorem aW.below {B:Nat} {w w':World} {v:Value} {n:Nat} {xs:List Value} (h:aW B w v n xs) (hb:Below B w w'):aW B w' v n xs:=by
 obtain ⟨ao,cap,rfl,h1,h2,h3⟩:=h;refine ⟨ao,cap,rfl,h1,h2,fun hl=>?_⟩;obtain ⟨b,off,rfl,h4,h5⟩:=h3 hl;exact ⟨b,off,rfl,h4,fun j u hu=>(hb.cell (p:=⟨b,off+j,none⟩) h4).trans (h5 j u hu)⟩
theorem aW.more {B B':Nat} {w:World} {v:Value} {n:Nat} {xs:List Value} (h:aW B w v n xs) (hB:B≤B'):aW B' w v n xs:=by
 obtain ⟨ao,cap,rfl,h1,h2,h3⟩:=h;refine ⟨ao,cap,rfl,h1,h2,fun hl=>?_⟩;obtain ⟨b,off,rfl,h4,h5⟩:=h3 hl;exact ⟨b,off,rfl,Nat.lt_of_lt_of_le h4 hB,h5⟩
theorem aW.nil (B:Nat) (w:World):aW B w (.slice none 0 0) 0 []:=⟨none,0,rfl,Nat.le_refl _,Nat.zero_le _,fun h=>absurd h (Nat.lt_irrefl _)⟩
theorem aW.cast {B:Nat} {w w':World} {v:Value} {n:Nat} {xs:List Value} (h:aW B w v n xs) (hc:∀b off,b<B→w'.cell? ⟨b,off,none⟩=w.cell? ⟨b,off,none⟩):aW B w' v n xs:=by
 obtain ⟨ao,cap,rfl,h1,h2,h3⟩:=h;refine ⟨ao,cap,rfl,h1,h2,fun hl=>?_⟩;obtain ⟨b,off,rfl,h4,h5⟩:=h3 hl;exact ⟨b,off,rfl,h4,fun j u hu=>(hc b _ h4).trans (h5 j u hu)⟩
theorem iQ (b off j:Nat):(⟨b,off,none⟩:Addr).add j=⟨b,off+j,none⟩:=by unfold Addr.add;split<;>simp_all
theorem aW.uJ {base:Nat} {w:World} {T:TypeId} {size:Nat} {v:Value} {n:Nat} {xs:List Value} (h:w.ownsRow base T size v n xs):aW w.heap.size w v n xs:=by
 rcases h.2 with ⟨rfl,h0⟩ | ⟨g,cap,cur,rfl,hb,hg,h1,h2,h3,h4⟩
 ·subst h0;exact ⟨none,0,rfl,Nat.le_refl _,Nat.zero_le _,fun h=>absurd h (Nat.lt_irrefl _)⟩
 ·refine ⟨some ⟨g,0,none⟩,cap,rfl,h1,h2,fun _=>⟨g,0,rfl,(Array.getElem?_eq_some_iff.1 hg).1,fun j u hu=>?_⟩⟩;have:=h.cells (g:=g) rfl j u hu;rw [iQ] at this;exact this
def lG {α:Type} (f g:α→Value) (l:List α):List Value:=l.flatMap fun y=>[f y,g y]
theorem uh {α:Type} (f g:α→Value) (l:List α):(lG f g l).length=l.length*2:=by
 induction l with
 | nil=>rfl
 | cons a l ih=>simp [lG] at *;omega
theorem Gw {α:Type} (f g:α→Value) (l:List α) (k:Nat):(lG f g l).take (k*2)=lG f g (l.take k):=by
 induction l generalizing k with
 | nil=>simp [lG]
 | cons a l ih=>
  match k with
  | 0=>simp [lG]
  | k+1=>
   have:=ih k;rw [show (k+1)*2=k*2+2 by omega];simp [lG] at *;exact this
theorem jm {α:Type} (f g:α→Value) (l:List α) (i:Nat) (h:i<l.length):(lG f g l)[i*2]?=some (f l[i])∧(lG f g l)[i*2+1]?=some (g l[i]):=by
 induction l generalizing i with
 | nil=>simp at h
 | cons a l ih=>
  match i with
  | 0=>simp [lG]
  | i+1=>
   have:=ih i (by simpa using h);have e1:(i+1)*2=i*2+2:=by omega
   rw [e1,show i*2+2+1=i*2+1+2 by omega];simp only [lG,List.flatMap_cons,List.cons_append,List.nil_append,List.getElem?_cons_succ,List.getElem_cons_succ] at *;exact this
end Go.Proofs.YtopmdeefcjdadaaGreat
namespace Go.Proofs.YtopmdeefcjdadaaGreat
open Go.ChangeShapes Go.WideShapes Go.RowKit Go.Deep
def jE (k:Int×ByteArray):Prop:=pK k.1∧k.2.size≤maxLen
def mh (k:Int×ByteArray):Lit:=.string (keyBytes [.int .i64 k.1,.string k.2.data.toList])
def Ac (k:Int×ByteArray):Value:=.agg #[.int .i64 k.1,.string k.2]
theorem Cx:Tryz.prog.cellsOf 3=1:=by kernel_rfl
theorem Ed:Tryz.prog.cellsOf 9=1:=by kernel_rfl
theorem P9:laidOutB Tryz.prog=true:=by kernel_rfl
theorem Ku:(40:TypeId)<Tryz.prog.types.size:=of_decide_eq_true (by kernel_rfl)
theorem keyAt2_:Tryz.prog.keyTypeAt 2 40=true:=by kernel_rfl
theorem Qb:(match Tryz.prog.underlying 40 with | some (.array _ _) | some (.struct _)=>true | _=>false)=true:=by kernel_rfl
theorem keyLaw_:WideMaps.KeyLaw Tryz.prog 40:=deep_law_laid P9 (m:=2) (by omega) Ku keyAt2_ Qb
theorem nD:Maps.Keyed Tryz.prog 40:=Maps.Keyed.of_law keyLaw_
theorem Qc:Tryz.prog.keyType 40=true:=by kernel_rfl
theorem Ck:Tryz.prog.cellsOf 40=2:=by kernel_rfl
theorem i64_wf {a:Int} (h:pK a):(Lit.int .i64 a).wf=true:=by
 unfold pK at h;simp [Lit.wf,IntKind.min,IntKind.max,IntKind.signed,IntKind.bits];omega
theorem Qd (d:Nat) {k:Int×ByteArray} (h:jE k):Tryz.prog.keyLits (d+2) 40 [.int .i64 k.1,.string k.2]=some [.int .i64 k.1,.string k.2.data.toList]:=by
 obtain ⟨h1,h2⟩:=h;have hw:=i64_wf h1;unfold Program.keyLits;rw [Tryz.underlying40];simp [Ck,Cx,Program.keyLits,Tryz.underlying3,Tryz.underlying9,hw,h2,Ed]
theorem Jb (k:Int×ByteArray):(Ac k).formed Tryz.prog 40=true:=by
 unfold Ac Value.formed;rw [Tryz.underlying40];simp [Ck]
theorem jX {k:Int×ByteArray} (h:jE k):keyOf Tryz.prog 40 (Ac k)=some (mh k):=by
 unfold keyOf;rw [Tryz.underlying40];simp only [Qc,Jb,Bool.and_self,if_true]
 obtain ⟨d,hd⟩:∃d,Tryz.prog.types.size+1=d+2:=by
  have h0:(40:Nat)<Tryz.prog.types.size:=Ku;generalize Tryz.prog.types.size=n at h0 ⊢;exact ⟨n-1,by omega⟩
 rw [hd,show (Ac k).cells.toList=[.int .i64 k.1,.string k.2] from rfl,Qd d h];rfl
theorem Ae {a b:Int×ByteArray} (ha:jE a) (hb:jE b) (h:mh a=mh b):a=b:=by
 have h1:=jX ha;have h2:=jX hb;rw [←h] at h2;have h3:=nD.inj h1 h2;unfold Ac at h3;simp at h3;obtain ⟨x,y⟩:=a;obtain ⟨z,u⟩:=b;obtain ⟨h4,h5⟩:=h3;simp at h4 h5;rw [h4,h5]
structure Run where
 ef:Eff
 aO:List (Int×ByteArray)
 aB:Int
 aJ:List (Int×Int)
 bP:Int
 aN:Int
 aQ:Int
def nE (l:List (Int×ByteArray)):List Value:=lG (fun k:Int×ByteArray=>Value.int .i64 k.1) (fun k=>.string k.2) l
def Dz (l:List (Int×Int)):List Value:=lG (fun k:Int×Int=>Value.int .i64 k.1) (fun k=>.int .i64 k.2) l
def KeyS (B:Nat) (w:World) (v:Value) (l:List (Int×ByteArray)):Prop:=aW B w v l.length (nE l)
def Av (B:Nat) (w:World) (v:Value) (l:List (Int×Int)):Prop:=aW B w v l.length (Dz l)
def Eo (k:Int×Int):Prop:=pK k.1∧pK k.2
def nK (x:Run):Prop:=R8 x.ef∧(∀k∈x.aO,jE k)∧(∀k∈x.aJ,Eo k)∧pK x.aB∧pK x.bP∧pK x.aN∧pK x.aQ
def uE (x:Run) (sv kv rv:Value):Value:=.agg #[.int .i64 x.ef.aK,.int .i64 x.ef.low,.int .i64 x.ef.aD,.int .i64 x.ef.aA,.int .i64 x.ef.ay,.int .i64 x.ef.ak,.bool x.ef.aI,.bool x.ef.rel,sv,kv,.int .i64 x.aB,rv,.int .i64 x.bP,.int .i64 x.aN,.int .i64 x.aQ]
structure lY (B:Nat) (w:World) (x:Run) (sv kv rv:Value):Prop where
 jV:StS B w sv x.ef.jV
 aO:KeyS B w kv x.aO
 aJ:Av B w rv x.aJ
theorem lY.below {B:Nat} {w w':World} {x:Run} {sv kv rv:Value} (h:lY B w x sv kv rv) (hb:Below B w w'):lY B w' x sv kv rv:=⟨h.jV.below hb,aW.below h.aO hb,aW.below h.aJ hb⟩
theorem lY.more {B B':Nat} {w:World} {x:Run} {sv kv rv:Value} (h:lY B w x sv kv rv) (hB:B≤B'):lY B' w x sv kv rv:=⟨h.jV.more hB,aW.more h.aO hB,aW.more h.aJ hB⟩
section
variable {H:Type} {enc:TypeId×Value→H} {w:World} {held:Bool}
theorem slist15 {α:Type} {l:List α} (h:l.length=15):∃a b c d e f g i j k m n o p q,l=[a,b,c,d,e,f,g,i,j,k,m,n,o,p,q]:=by
 match l,h with
 | [a,b,c,d,e,f,g,i,j,k,m,n,o,p,q],_=>exact ⟨a,b,c,d,e,f,g,i,j,k,m,n,o,p,q,rfl⟩
theorem Mf {fuel:Nat} {cs:List Value} {x:DataW H×List MemPlace} (h:DataW.trod enc Tryz.prog w 0 (fun _=>true) held fuel 29 cs=some x) :
  ∃v l,cs=[v]∧KeyS w.heap.size w v l∧∀s∈l,jE s:=by
 rcases open_slice Tryz.underlying29 h with ⟨rfl,_⟩ | ⟨a,len,cap,m,n,D,Pl,rfl,_,hl,hm,hmm,_,hx⟩
 ·exact ⟨_,[],rfl,aW.nil _ _,by simp⟩
 ·simp only [if_true] at hmm;subst hmm;have c3:Tryz.prog.cellsOf 40=2:=by kernel_rfl
  have he:∀i,i<len→∃y:Int×ByteArray,w.cell? (a.add (i*2))=some (.int .i64 y.1)∧w.cell? ((a.add (i*2)).add 1)=some (.string y.2)∧jE y:=by
   intro i hi;obtain ⟨cs',h1,h2⟩:=hx i (by omega);rw [c3] at h1;obtain ⟨_,hcl,hat⟩:=World.cells?_some h1;obtain ⟨_,n',hf⟩:=fI Tryz.underlying40 (by kernel_rfl) c3 h2;obtain ⟨u0,u1,rfl⟩:=Kt hcl;obtain ⟨x1,z1,q1,m1⟩:=hf 0 _ rfl;obtain ⟨x2,z2,q2,m2⟩:=hf 1 _ rfl;simp at q1 q2;subst q1 q2;obtain ⟨a1,rfl,w1⟩:=bU Tryz.underlying3 m1;obtain ⟨a2,e2,_,w2⟩:=DataW.trod_string Tryz.underlying9 m2;simp at e2;subst e2;refine ⟨⟨a1,a2⟩,?_,hat 1 (by omega),bT w1,w2⟩;have:=hat 0 (by omega);simpa [Addr.add] using this
  obtain ⟨Y,hY⟩:=choose_lt he;refine ⟨_,(List.range len).map Y,rfl,⟨some a,m,by simp,by simpa using hl,hm,fun hpos=>?_⟩,?_⟩
  ·have h0:0<len:=by simpa using hpos
   have hsp:a.spot=none:=by
    have:=World.cell?_spot (hY 0 h0).1;simpa [Addr.add] using this
   obtain ⟨b,off,spot⟩:=a;simp only at hsp;subst hsp;refine ⟨b,off,rfl,?_,fun j u hu=>?_⟩
   ·have:=World.block_lt_of_cell? w _ (hY 0 h0).1;simpa [Addr.add] using this
   ·have hj:j<(nE ((List.range len).map Y)).length:=(List.getElem?_eq_some_iff.1 hu).1;rw [show (nE ((List.range len).map Y)).length=len*2 by unfold nE;rw [uh];simp] at hj;have hi:j / 2<len:=by omega
    obtain ⟨g1,g2⟩:=jm (fun k:Int×ByteArray=>Value.int .i64 k.1) (fun k=>.string k.2) ((List.range len).map Y) (j / 2) (by simpa using hi);obtain ⟨c1,c2,_⟩:=hY (j / 2) hi;rw [iQ] at c1;rw [iQ,iQ] at c2;simp only [List.getElem_map,List.getElem_range] at g1 g2;rcases Nat.mod_two_eq_zero_or_one j with e | e
    ·have:j=j / 2*2:=by omega
     rw [this] at hu ⊢;obtain rfl:=Option.some.inj (g1.symm.trans hu);exact c1
    ·have:j=j / 2*2+1:=by omega
     rw [this] at hu ⊢;obtain rfl:=Option.some.inj (g2.symm.trans hu);exact c2
  ·intro y hy;simp at hy;obtain ⟨i,hi,rfl⟩:=hy;exact (hY i hi).2.2
theorem Iu {fuel:Nat} {cs:List Value} {x:DataW H×List MemPlace} (h:DataW.trod enc Tryz.prog w 0 (fun _=>true) held fuel 30 cs=some x) :
  ∃v l,cs=[v]∧Av w.heap.size w v l∧∀s∈l,Eo s:=by
 rcases open_slice Tryz.underlying30 h with ⟨rfl,_⟩ | ⟨a,len,cap,m,n,D,Pl,rfl,_,hl,hm,hmm,_,hx⟩
 ·exact ⟨_,[],rfl,aW.nil _ _,by simp⟩
 ·simp only [if_true] at hmm;subst hmm;have c3:Tryz.prog.cellsOf 85=2:=by kernel_rfl
  have he:∀i,i<len→∃y:Int×Int,w.cell? (a.add (i*2))=some (.int .i64 y.1)∧w.cell? ((a.add (i*2)).add 1)=some (.int .i64 y.2)∧Eo y:=by
   intro i hi;obtain ⟨cs',h1,h2⟩:=hx i (by omega);rw [c3] at h1;obtain ⟨_,hcl,hat⟩:=World.cells?_some h1;obtain ⟨_,n',hf⟩:=fI Tryz.underlying85 (by kernel_rfl) c3 h2;obtain ⟨u0,u1,rfl⟩:=Kt hcl;obtain ⟨x1,z1,q1,m1⟩:=hf 0 _ rfl;obtain ⟨x2,z2,q2,m2⟩:=hf 1 _ rfl;simp at q1 q2;subst q1 q2;obtain ⟨a1,rfl,w1⟩:=bU Tryz.underlying3 m1;obtain ⟨a2,rfl,w2⟩:=bU Tryz.underlying3 m2;refine ⟨⟨a1,a2⟩,?_,hat 1 (by omega),bT w1,bT w2⟩;have:=hat 0 (by omega);simpa [Addr.add] using this
  obtain ⟨Y,hY⟩:=choose_lt he;refine ⟨_,(List.range len).map Y,rfl,⟨some a,m,by simp,by simpa using hl,hm,fun hpos=>?_⟩,?_⟩
  ·have h0:0<len:=by simpa using hpos
   have hsp:a.spot=none:=by
    have:=World.cell?_spot (hY 0 h0).1;simpa [Addr.add] using this
   obtain ⟨b,off,spot⟩:=a;simp only at hsp;subst hsp;refine ⟨b,off,rfl,?_,fun j u hu=>?_⟩
   ·have:=World.block_lt_of_cell? w _ (hY 0 h0).1;simpa [Addr.add] using this
   ·have hj:j<(Dz ((List.range len).map Y)).length:=(List.getElem?_eq_some_iff.1 hu).1;rw [show (Dz ((List.range len).map Y)).length=len*2 by unfold Dz;rw [uh];simp] at hj;have hi:j / 2<len:=by omega
    obtain ⟨g1,g2⟩:=jm (fun k:Int×Int=>Value.int .i64 k.1) (fun k=>.int .i64 k.2) ((List.range len).map Y) (j / 2) (by simpa using hi);obtain ⟨c1,c2,_⟩:=hY (j / 2) hi;rw [iQ] at c1;rw [iQ,iQ] at c2;simp only [List.getElem_map,List.getElem_range] at g1 g2;rcases Nat.mod_two_eq_zero_or_one j with e | e
    ·have:j=j / 2*2:=by omega
     rw [this] at hu ⊢;obtain rfl:=Option.some.inj (g1.symm.trans hu);exact c1
    ·have:j=j / 2*2+1:=by omega
     rw [this] at hu ⊢;obtain rfl:=Option.some.inj (g2.symm.trans hu);exact c2
  ·intro y hy;simp at hy;obtain ⟨i,hi,rfl⟩:=hy;exact (hY i hi).2.2
theorem Fe {fuel:Nat} {cs:List Value} {x:DataW H×List MemPlace} (h:DataW.trod enc Tryz.prog w 0 (fun _=>true) held fuel 28 cs=some x) :
  ∃(y:Eff) (sv:Value),cs=[.int .i64 y.aK,.int .i64 y.low,.int .i64 y.aD,.int .i64 y.aA,.int .i64 y.ay,.int .i64 y.ak,.bool y.aI,.bool y.rel,sv]∧StS w.heap.size w sv y.jV∧R8 y:=by
 have hc:Tryz.prog.cellsOf 28=9:=by kernel_rfl
 obtain ⟨hl,n,hf⟩:=fI Tryz.underlying28 (by kernel_rfl) hc h;obtain ⟨u0,u1,u2,u3,u4,u5,u6,u7,u8,rfl⟩:=slist9 hl;obtain ⟨x0,y0,q0,k0⟩:=hf 0 _ rfl;obtain ⟨x1,y1,q1,k1⟩:=hf 1 _ rfl;obtain ⟨x2,y2,q2,k2⟩:=hf 2 _ rfl;obtain ⟨x3,y3,q3,k3⟩:=hf 3 _ rfl;obtain ⟨x4,y4,q4,k4⟩:=hf 4 _ rfl;obtain ⟨x5,y5,q5,k5⟩:=hf 5 _ rfl;obtain ⟨x6,y6,q6,k6⟩:=hf 6 _ rfl;obtain ⟨x7,y7,q7,k7⟩:=hf 7 _ rfl;obtain ⟨x8,y8,q8,k8⟩:=hf 8 _ rfl;simp at q0 q1 q2 q3 q4 q5 q6 q7 q8;subst q0 q1 q2 q3 q4 q5 q6 q7 q8;obtain ⟨a0,rfl,w0⟩:=bU Tryz.underlying3 k0;obtain ⟨a1,rfl,w1⟩:=bU Tryz.underlying3 k1;obtain ⟨a2,rfl,w2⟩:=bU Tryz.underlying3 k2;obtain ⟨a3,rfl,w3⟩:=bU Tryz.underlying3 k3;obtain ⟨a4,rfl,w4⟩:=bU Tryz.underlying3 k4;obtain ⟨a5,rfl,w5⟩:=bU Tryz.underlying3 k5;obtain ⟨a6,e6,_⟩:=DataW.trod_bool Tryz.underlying4 k6;simp at e6;subst e6;obtain ⟨a7,e7,_⟩:=DataW.trod_bool Tryz.underlying4 k7;simp at e7;subst e7;obtain ⟨v8,l8,e8,h8,f8⟩:=Ir k8;simp at e8;subst e8;exact ⟨⟨a0,a1,a2,a3,a4,a5,a6,a7,l8⟩,_,rfl,h8,⟨bT w0,bT w1,bT w2,bT w3,bT w4,bT w5⟩,f8⟩
theorem Ee:Tryz.prog.cellsOf 28=9:=by kernel_rfl
theorem JC:Tryz.prog.cellsOf 29=1:=by kernel_rfl
theorem Gv:Tryz.prog.cellsOf 30=1:=by kernel_rfl
theorem Bl:Tryz.prog.cellsOf 32=15:=by kernel_rfl
end
end Go.Proofs.YtopmdeefcjdadaaGreat
namespace Go.Proofs.YtopmdeefcjdadaaGreat
end Go.Proofs.YtopmdeefcjdadaaGreat
namespace Go.Proofs.YtopmdeefcjdadaaGreat
open Go.RowKit
theorem Ig (n d:Int) (hd:0<d):(if n.tmod d<0 then n.tdiv d-1 else n.tdiv d)=n / d:=by
 have h1:=@Int.tmod_eq_emod n d;have h2:=@Int.tdiv_eq_ediv n d;have h3:=Int.emod_nonneg n (b:=d) (by omega);have h4:=Int.emod_lt_of_pos n hd;have h5:d.sign=1:=Int.sign_eq_one_of_pos hd;by_cases hn:0≤n∨d ∣ n
 ·rw [if_pos hn] at h1 h2;rw [if_neg (by omega)];omega
 ·rw [if_neg hn] at h1 h2;rw [h5] at h2;have h6:((d.natAbs:Nat):Int)=d:=by omega
  rw [h6] at h1;rw [if_pos (by omega)];omega
theorem Gm (n d B:Int) (hd:0<d) (hB:0≤B) (h1:-B≤n) (h2:n≤B):-B≤n / d∧n / d≤B:=by
 refine ⟨?_,?_⟩
 ·rw [Int.le_ediv_iff_mul_le hd];have:B*1≤B*d:=Int.mul_le_mul_of_nonneg_left (by omega) hB;have e:-B*d=-(B*d):=by rw [Int.neg_mul]
  omega
 ·refine Int.ediv_le_of_le_mul hd ?_;have:B*1≤B*d:=Int.mul_le_mul_of_nonneg_left (by omega) hB;omega
theorem Ni (n d:Int) (w:World) (hd:0<d) (h1:-9223372036854775807≤n) (h2:n≤9223372036854775807) (h3:d≤9223372036854775807) :
  Calls Tryz.prog 97 #[.int .i64 n,.int .i64 d] w fun e w'=>e=.returned (.int .i64 (n / d))∧w=w':=by
 have hb:=Gm n d 9223372036854775807 hd (by omega) (by omega) h2;have hf:=Ig n d hd;by_cases hn:n.tmod d<0
 ·rw [if_pos hn] at hf;have hw:wrap64 (n.tdiv d-1)=n / d:=by rw [hf];exact IntWalk.wrap64_in _ ⟨by omega,by omega⟩
  have H:=ah hw;clear hw hf hb;go_enter Tryz.func97,Tryz.ntmps97;go_wp2
  go_ret;exact ⟨by rw [H.out];rfl,rfl⟩
 ·rw [if_neg hn] at hf;have H:=ah hf;clear hf hb;go_enter Tryz.func97,Tryz.ntmps97;go_wp2
  go_ret;exact ⟨by rw [H.out];rfl,rfl⟩
theorem H9 (n lo hi:Int) (w:World) (h:lo≤n∧n≤hi) :
  Calls Tryz.prog 31 #[.int .i64 n,.int .i64 lo,.int .i64 hi] w fun e w'=>e=.returned (.bool true)∧w=w':=by
 obtain ⟨h1,h2⟩:=h;have e2:decide (n≤hi)=true:=by simpa using h2
 go_enter Tryz.func31,Tryz.ntmps31;go_wp2
 go_ret;exact ⟨rfl,rfl⟩
theorem K7 (n lo hi:Int) (w:World) (h:n<lo∨hi<n) :
  Calls Tryz.prog 31 #[.int .i64 n,.int .i64 lo,.int .i64 hi] w fun e w'=>e=.returned (.bool false)∧w=w':=by
 by_cases h1:lo≤n
 ·have e2:decide (n≤hi)=false:=by simp;omega
  have h2:hi<n:=by omega
  clear h;go_enter Tryz.func31,Tryz.ntmps31;go_wp2
  go_ret;exact ⟨rfl,rfl⟩
 ·have h2:n<lo:=by omega
  clear h;go_enter Tryz.func31,Tryz.ntmps31;go_wp2
  go_ret;exact ⟨rfl,rfl⟩
def iZ (x:Int):Int:=x / 18446744073709551616
def jA (x:Int):Int:=x % 18446744073709551616
def fq (x:Int):Prop:=0≤x∧x<18446744073709551616
theorem QD (x:Int) (h:fq x):iZ x=0:=by unfold iZ;unfold fq at h;omega
theorem P6 (x:Int) (h:fq x):jA x=x:=by unfold jA;unfold fq at h;omega
theorem mul64 (x y:Int) (hx:fq x) (hy:fq y) (w:World) :
  Calls Tryz.prog 95 #[.int .u64 x,.int .u64 y] w fun e w'=>e=.returned (.tuple #[.int .u64 (iZ (x*y)),.int .u64 (jA (x*y))])∧w=w':=by
 obtain ⟨hx0,hx1⟩:=hx;obtain ⟨hy0,hy1⟩:=hy;obtain ⟨a,rfl⟩:=Int.eq_ofNat_of_zero_le hx0;obtain ⟨b,rfl⟩:=Int.eq_ofNat_of_zero_le hy0;refine (Tryz.bits_Mul64 a b (by omega) (by omega) w).mono ?_;rintro e w' ⟨rfl,rfl⟩;refine ⟨?_,rfl⟩;unfold iZ jA;congr 5<;>simp
theorem add64 (x y c:Int) (hx:fq x) (hy:fq y) (hc0:0≤c) (hc1:c≤1) (w:World) :
  (callFunc 96 #[.int .u64 x,.int .u64 y,.int .u64 c]).run Tryz.prog w=.ok (.value (.tuple #[.int .u64 (jA (x+y+c)),.int .u64 (iZ (x+y+c))])) w:=by
 obtain ⟨hx0,hx1⟩:=hx;obtain ⟨hy0,hy1⟩:=hy;obtain ⟨a,rfl⟩:=Int.eq_ofNat_of_zero_le hx0;obtain ⟨b,rfl⟩:=Int.eq_ofNat_of_zero_le hy0;obtain ⟨d,rfl⟩:=Int.eq_ofNat_of_zero_le hc0;rw [run_callFunc_extern Tryz.func96 (by kernel_rfl) (by kernel_rfl) (by kernel_rfl) (e:=add64Entry) (by kernel_rfl),run_add64 a b d (by omega) (by omega) (by omega) (by omega)];simp only [Result.andThen];unfold iZ jA;congr 5<;>omega
theorem El (x y:Int) (hx:fq x) (hy:fq y) (w:World) :
  (callFunc 96 #[.int .u64 x,.int .u64 y,.int .u64 0]).run Tryz.prog w=.ok (.value (.tuple #[.int .u64 (jA (x+y)),.int .u64 (iZ (x+y))])) w:=by
 simpa using add64 x y 0 hx hy (Int.le_refl 0) (by decide) w
theorem carry (x y:Int):0≤iZ (jA x+jA y)∧iZ (jA x+jA y)≤1:=by unfold iZ jA;omega
theorem bt {a b c:World} (h:Below a.heap.size a b) (k:Below b.heap.size b c):Below a.heap.size a c:=h.trans (k.mono h.size)
theorem DC (n lo hi:Int) (w:World) (h:lo≤n∧n≤hi) :
  Calls Tryz.prog 45 #[.int .i64 n,.int .i64 lo,.int .i64 hi] w fun e w'=>e=.returned (.bool true)∧w=w':=by
 obtain ⟨h1,h2⟩:=h;have e2:decide (n≤hi)=true:=by simpa using h2
 go_enter Tryz.func45,Tryz.ntmps45;go_wp2
 go_ret;exact ⟨rfl,rfl⟩
theorem Fq (n lo hi:Int) (w:World) (h:n<lo∨hi<n) :
  Calls Tryz.prog 45 #[.int .i64 n,.int .i64 lo,.int .i64 hi] w fun e w'=>e=.returned (.bool false)∧w=w':=by
 by_cases h1:lo≤n
 ·have e2:decide (n≤hi)=false:=by simp;omega
  have h2:hi<n:=by omega
  clear h;go_enter Tryz.func45,Tryz.ntmps45;go_wp2
  go_ret;exact ⟨rfl,rfl⟩
 ·have h2:n<lo:=by omega
  clear h;go_enter Tryz.func45,Tryz.ntmps45;go_wp2
  go_ret;exact ⟨rfl,rfl⟩
def RB (k:IntKind) (w:World) (b off:Nat) (zs:List Int):Prop:=∀i (h:i<zs.length),w.cell? ⟨b,off+i,none⟩=some (.int k zs[i])
def oG:List Int→Int
 | []=>0
 | e::l=>if e=0 then oG l else e
theorem Gj (l:List Int) (k:Nat) (h:k<l.length):oG (l.drop k)=if l[k]=0 then oG (l.drop (k+1)) else l[k]:=by
 rw [List.drop_eq_getElem_cons h];rfl
theorem Ct (b off cap:Nat) (zs:List Int) (w:World) (hm:zs.length≤9223372036854775807)
  (hc:RB .i64 w b off zs) :
  Calls Tryz.prog 14 #[.slice (some ⟨b,off,none⟩) zs.length cap] w fun e w'=>e=.returned (.int .i64 (oG zs))∧w=w':=by
 go_enter Tryz.func14,Tryz.ntmps14;go_wp2
 go_loop [7] (fun i=>∃k:Nat,k≤zs.length∧i=.int .i64 k∧oG zs=oG (zs.drop k)) (fun i=>zs.length-(intOf i).toNat)
 case atStart=>exact ⟨0,Nat.zero_le _,rfl,rfl⟩
 case round=>
  obtain ⟨k,hk,rfl,he⟩:=hrel;have HE:=ah he;clear he;by_cases hlt:k<zs.length
  ·have hcell:=hc k hlt;have HD:=ah (Gj zs k hlt);by_cases h0:(zs[k] !=0)=true
   ·go_wp2
    go_ret;exact ⟨by rw [HE.out,HD.out,if_neg (by simpa using h0)];rfl,rfl⟩
   ·have h1:(zs[k] !=0)=false:=by simpa using h0
    clear h0;go_wp2
    go_round
    case rel=>exact ⟨k+1,by omega,by go_num,by rw [HE.out,HD.out,if_pos (by simpa using h1)]⟩
    case measure=>simp [intOf];omega
  ·have HD:Hid (oG (zs.drop k)=0):=by
    rw [List.drop_eq_nil_of_le (by omega)];exact rfl
   go_wp2
   go_ret;exact ⟨by rw [HE.out,HD.out];rfl,rfl⟩
theorem OB (f:Int) (w:World):Calls Tryz.prog 17 #[.bool true,.int .i64 f] w fun e w'=>e=.returned (.int .i64 f)∧w=w':=by
 go_enter Tryz.func17,Tryz.ntmps17;go_wp2
 go_ret;exact ⟨rfl,rfl⟩
theorem when_no (f:Int) (w:World):Calls Tryz.prog 17 #[.bool false,.int .i64 f] w fun e w'=>e=.returned (.int .i64 0)∧w=w':=by
 go_enter Tryz.func17,Tryz.ntmps17;go_wp2
 go_ret;exact ⟨rfl,rfl⟩
def bW (n lo hi:Int):Bool:=decide (lo≤n∧n≤hi)
def dN (b:Bool) (f:Int):Int:=if b then f else 0
theorem aV (n lo hi:Int) (w:World):Calls Tryz.prog 31 #[.int .i64 n,.int .i64 lo,.int .i64 hi] w fun e w'=>e=.returned (.bool (bW n lo hi))∧w=w':=by
 by_cases h:lo≤n∧n≤hi
 ·have:bW n lo hi=true:=decide_eq_true h;rw [this];exact H9 n lo hi w h
 ·have:bW n lo hi=false:=decide_eq_false h;rw [this];exact K7 n lo hi w (by omega)
theorem bZ (b:Bool) (f:Int) (w:World):Calls Tryz.prog 17 #[.bool b,.int .i64 f] w fun e w'=>e=.returned (.int .i64 (dN b f))∧w=w':=by
 cases b
 ·exact when_no f w
 ·exact OB f w
theorem aR (n lo hi:Int) (w:World):Calls Tryz.prog 45 #[.int .i64 n,.int .i64 lo,.int .i64 hi] w fun e w'=>e=.returned (.bool (bW n lo hi))∧w=w':=by
 by_cases h:lo≤n∧n≤hi
 ·have:bW n lo hi=true:=decide_eq_true h;rw [this];exact DC n lo hi w h
 ·have:bW n lo hi=false:=decide_eq_false h;rw [this];exact Fq n lo hi w (by omega)
theorem bq (n:Int) (w:World):Calls Tryz.prog 44 #[.int .i64 n] w fun e w'=>e=.returned (.bool (bW n 0 65535))∧w=w':=by
 go_enter Tryz.func44,Tryz.ntmps44;go_wp2_with (go_at_call 45;refine (aR _ _ _ _).mono ?_;rintro e w' ⟨rfl,rfl⟩);go_ret;exact ⟨rfl,rfl⟩
theorem bF (n:Int) (w:World):Calls Tryz.prog 38 #[.int .i64 n] w fun e w'=>e=.returned (.bool (bW n 0 65535))∧w=w':=by
 go_enter Tryz.func38,Tryz.ntmps38;go_wp2_with (go_at_call 31;refine (aV _ _ _ _).mono ?_;rintro e w' ⟨rfl,rfl⟩);go_ret;exact ⟨rfl,rfl⟩
def fV (s:Stp):Bool:=bW s.lv 0 65535&&bW s.hold 0 3600000&&bW s.bG 0 3600000
def dh:List Stp→Int
 | []=>0
 | s::r=>s.hold+s.bG+dh r
theorem ES (l m:List Stp):dh (l++m)=dh l+dh m:=by
 induction l with
 | nil=>simp [dh]
 | cons s r ih=>simp only [List.cons_append,dh,ih];omega
theorem BG (l:List Stp) (k:Nat) (h:k<l.length):dh (l.take (k+1))=dh (l.take k)+(l[k].hold+l[k].bG):=by
 rw [List.take_succ_eq_append_getElem h,ES];simp [dh]
theorem sQ {s:Stp} (h:fV s=true):(0≤s.lv∧s.lv≤65535)∧(0≤s.hold∧s.hold≤3600000)∧0≤s.bG∧s.bG≤3600000:=by
 simp [fV,bW] at h;omega
theorem Kh (l:List Stp) (h:l.all fV=true):0≤dh l∧dh l≤7200000*l.length:=by
 induction l with
 | nil=>simp [dh]
 | cons s r ih=>
  simp only [List.all_cons,Bool.and_eq_true] at h;have h1:=ih h.2;have h2:=sQ h.1;simp only [dh,List.length_cons];omega
theorem CG {l:List Stp} (h:l.all fV=true) (k:Nat):(l.take k).all fV=true:=by
 rw [List.all_eq_true] at h ⊢;exact fun x hx=>h x (List.mem_of_mem_take hx)
def eT (fb f4 f7 w0 c0 l0 lb hb hl cb wb sb l50 st cy:Bool):Int:=
 if !fb then 4 else if (!f4&&!w0)||(f7&&!c0)||(!f7&&!l0) then 3 else if !lb||!hb||hl then 1 else if (!f7&&!cb)||!wb||!sb then 1 else if !f7 then 0 else if l0 then 8 else if l50 then 2 else if !st then 1 else if cy then 0 else 1
def dL (aK low aD aA ay ak:Int) (l:List Stp):Int:=
 eT (bW aK 1 7) (aK==4) (aK==7) (ay==0) (aA==0) (l.length==0) (bW low 0 65535) (bW aD 0 65535) (decide (aD<low)) (bW aA 1 3600000) (bW ay 0 1000) (bW ak (-10000) 10000) (decide (50<l.length)) (l.all fV) (bW (aA+dh l) 1 3600000)
def pF (x:Eff):Int:=dL x.aK x.low x.aD x.aA x.ay x.ak x.jV
def eH (B:Nat) (w:World) (ao:Option Addr) (l:List Stp):Prop:=l≠[]→∃b off,ao=some ⟨b,off,none⟩∧b<B∧∀i (h:i<l.length),StpC w b (off+i*3) l[i]
theorem xG (aK low aD aA ay ak:Int) (aI rel:Bool) (ao:Option Addr) (cap:Nat) (l:List Stp) (w:World) (hs:eH w.heap.size w ao l) (hl:l.length≤50) (hall:l.all fV=true) (hc:0≤aA∧aA≤3600000) :
  Calls Tryz.prog 63 #[(.agg #[.int .i64 aK,.int .i64 low,.int .i64 aD,.int .i64 aA,.int .i64 ay,.int .i64 ak,.bool aI,.bool rel,.slice ao l.length cap])] w fun e w'=>e=.returned (.int .i64 (aA+dh l))∧Below w.heap.size w w':=by
 have HS:=ah hs;have iB:=ah (fun k=>Kh _ (CG hall k));have HK:=ah (fun k (h:k<l.length)=>BG l k h);have HA:=ah (fun k (h:k<l.length)=>sQ (List.all_eq_true.1 hall _ (List.getElem_mem h)));have Ez:=ah (show dh (l.take l.length)=dh l by rw [List.take_length]);skip;clear hs hall;go_enter Tryz.func63,Tryz.ntmps63;go_wp2_with fail;go_loopw [3,11] (fun n i wr=>∃k:Nat,k≤l.length∧i=.int .i64 k∧n=.int .i64 (aA+dh (l.take k))∧Below w.heap.size w wr∧w.heap.size+1≤wr.heap.size) (fun _ i _=>l.length-(intOf i).toNat)
 case atStart=>exact ⟨0,Nat.zero_le _,rfl,by simp [dh],(Below.refl _ _).alloc (Nat.le_refl _) _,by simp⟩
 case round=>
  obtain ⟨k,hk,rfl,rfl,hbw,yP⟩:=hrel;by_cases hlt:k<l.length
  ·obtain ⟨b,off,rfl,hbb,uM⟩:=HS.out (by intro h;subst h;simp at hlt);obtain ⟨c0,c1,c2⟩:=uM k hlt;have d0:wr.cell? ⟨b,off+k*3,none⟩=some (.int .i64 l[k].lv):=(hbw.cell (p:=⟨b,off+k*3,none⟩) hbb).trans c0;have d1:wr.cell? ⟨b,off+k*3+1,none⟩=some (.int .i64 l[k].hold):=(hbw.cell (p:=⟨b,off+k*3+1,none⟩) hbb).trans c1;have d2:wr.cell? ⟨b,off+k*3+2,none⟩=some (.int .i64 l[k].bG):=(hbw.cell (p:=⟨b,off+k*3+2,none⟩) hbb).trans c2;have hbr:b<wr.heap.size:=by omega
   have HB:=ah hbw;have HN:=ah (HK.out k hlt);have s1:=iB.out k;obtain ⟨_,s3,s4⟩:=HA.out k hlt;have s2:(l.take k).length≤50:=by rw [List.length_take];omega
   obtain ⟨s5,s6⟩:=s1;have s7:dh (l.take k)≤360000000:=by omega
   clear hbw c0 c1 c2 uM hbb s6;go_wp2_with fail;go_roundw
   case rel=>
    first
     | exact ⟨k+1,by omega,by go_num,by rw [HN.out]<;>(congr 1;omega),HB.out.alloc (by omega) _,by simp;omega⟩
     | ((repeat apply Exists.intro);refine ⟨⟨k+1,by omega,by go_num,by rw [HN.out]<;>(congr 1;omega),HB.out.alloc (by omega) _,by simp;omega⟩,?_⟩;rfl)
   case measure=>simp [intOf];omega
  ·have hkk:k=l.length:=by omega
   have HB:=ah hbw;subst hkk;clear hbw;go_wp2_with fail;go_ret;exact ⟨by rw [Ez.out];rfl,HB.out⟩
theorem zG (aK low aD aA ay ak:Int) (aI rel:Bool) (ao:Option Addr) (cap:Nat) (l:List Stp) (w:World) (h7:aK=7) (hs:eH w.heap.size w ao l) (hl:l.length≤50) (hall:l.all fV=true) (hc:0≤aA∧aA≤3600000) :
  Calls Tryz.prog 59 #[(.agg #[.int .i64 aK,.int .i64 low,.int .i64 aD,.int .i64 aA,.int .i64 ay,.int .i64 ak,.bool aI,.bool rel,.slice ao l.length cap])] w fun e w'=>e=.returned (.int .i64 (dh l))∧Below w.heap.size w w':=by
 have HS:=ah hs;have iB:=ah (fun k=>Kh _ (CG hall k));have HK:=ah (fun k (h:k<l.length)=>BG l k h);have HA:=ah (fun k (h:k<l.length)=>sQ (List.all_eq_true.1 hall _ (List.getElem_mem h)));have Ez:=ah (show dh (l.take l.length)=dh l by rw [List.take_length]);subst h7;clear hs hall;go_enter Tryz.func59,Tryz.ntmps59;go_wp2_with fail;go_loopw [3,14] (fun n i wr=>∃k:Nat,k≤l.length∧i=.int .i64 k∧n=.int .i64 (dh (l.take k))∧Below w.heap.size w wr∧w.heap.size+1≤wr.heap.size) (fun _ i _=>l.length-(intOf i).toNat)
 case atStart=>exact ⟨0,Nat.zero_le _,rfl,by simp [dh],(Below.refl _ _).alloc (Nat.le_refl _) _,by simp⟩
 case round=>
  obtain ⟨k,hk,rfl,rfl,hbw,yP⟩:=hrel;by_cases hlt:k<l.length
  ·obtain ⟨b,off,rfl,hbb,uM⟩:=HS.out (by intro h;subst h;simp at hlt);obtain ⟨c0,c1,c2⟩:=uM k hlt;have d0:wr.cell? ⟨b,off+k*3,none⟩=some (.int .i64 l[k].lv):=(hbw.cell (p:=⟨b,off+k*3,none⟩) hbb).trans c0;have d1:wr.cell? ⟨b,off+k*3+1,none⟩=some (.int .i64 l[k].hold):=(hbw.cell (p:=⟨b,off+k*3+1,none⟩) hbb).trans c1;have d2:wr.cell? ⟨b,off+k*3+2,none⟩=some (.int .i64 l[k].bG):=(hbw.cell (p:=⟨b,off+k*3+2,none⟩) hbb).trans c2;have hbr:b<wr.heap.size:=by omega
   have HB:=ah hbw;have HN:=ah (HK.out k hlt);have s1:=iB.out k;obtain ⟨_,s3,s4⟩:=HA.out k hlt;have s2:(l.take k).length≤50:=by rw [List.length_take];omega
   obtain ⟨s5,s6⟩:=s1;have s7:dh (l.take k)≤360000000:=by omega
   clear hbw c0 c1 c2 uM hbb s6;go_wp2_with fail;go_roundw
   case rel=>
    first
     | exact ⟨k+1,by omega,by go_num,by rw [HN.out]<;>(congr 1;omega),HB.out.alloc (by omega) _,by simp;omega⟩
     | ((repeat apply Exists.intro);refine ⟨⟨k+1,by omega,by go_num,by rw [HN.out]<;>(congr 1;omega),HB.out.alloc (by omega) _,by simp;omega⟩,?_⟩;rfl)
   case measure=>simp [intOf];omega
  ·have hkk:k=l.length:=by omega
   have HB:=ah hbw;subst hkk;clear hbw;go_wp2_with fail;go_ret;exact ⟨by rw [Ez.out];rfl,HB.out⟩
end Go.Proofs.YtopmdeefcjdadaaGreat
