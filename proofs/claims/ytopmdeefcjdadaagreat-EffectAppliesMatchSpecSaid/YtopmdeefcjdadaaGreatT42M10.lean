import Derived.Test.YtopmdeefcjdadaaGreatT42M00
import Derived.Test.YtopmdeefcjdadaaGreatT42M09
import Derived.Test.YtopmdeefcjdadaaGreatT42M01
import Derived.Laws.AppendOwn
import Derived.Test.YtopmdeefcjdadaaGreatT42M05
import Derived.Test.YtopmdeefcjdadaaGreatT42M06
import Derived.OwnWalk
set_option linter.unusedVariables false
set_option linter.unusedSimpArgs false
set_option maxRecDepth 100000
set_option maxHeartbeats 32000000
namespace Go.Proofs.YtopmdeefcjdadaaGreat
open Go.RowKit
theorem Ip (B:Nat) (pn:ByteArray) (pz:Int) (pv:Value) (l:List jy) (nm:ByteArray) (w:World) (hBw:B≤w.heap.size) (h:jI B w pv l) :
  Calls Tryz.prog 76 #[.agg #[.string pn,.int .i64 pz,pv],.string nm] w fun e w'=>∃xv,e=.returned (.tuple #[xv,.bool (kU l nm.data.toList).isSome])∧Er B w' (kU l nm.data.toList) xv∧Below w.heap.size w w':=by
 have HG:=ah (jI.get h);have HS:=ah (lC (jZ nm.data.toList) l)
 have yT:=ah (show (fQ (jZ nm.data.toList) l 0=-1→kU l nm.data.toList=none)∧∀(k:Nat) (h:k<l.length),fQ (jZ nm.data.toList) l 0=(k:Int)→kU l nm.data.toList=some l[k] from by
  rcases HS.out with ⟨h1,h2⟩ | ⟨k,hk,h1,h2⟩
  ·exact ⟨fun _=>h2,fun k hk h=>by rw [h1] at h;omega⟩
  ·refine ⟨fun h=>by rw [h1] at h;omega,fun j hj h=>?_⟩;rw [h1] at h;have:j=k:=by omega
   subst this;exact h2)
 have HC:=ah (show fQ (jZ nm.data.toList) l 0=fQ (jZ nm.data.toList) (l.drop 0) 0 by simp);obtain ⟨po,jr,rfl⟩:=gQ h;have hm:=FH h;generalize fQ (jZ nm.data.toList) l 0=IX at *;generalize hPO:kU l nm.data.toList=PO at *;clear hPO HS h;go_enter Tryz.func76,Tryz.ntmps76;go_wp2_with fail;go_loopw [11] (fun i wr=>∃k:Nat,k≤l.length∧i=.int .i64 k∧Hid (IX=fQ (jZ nm.data.toList) (l.drop k) k)∧Hid (Below (w.heap.size+1+1) ((w.alloc (.cells #[.string pn,.int .i64 pz,.slice po l.length jr] 71)).alloc (.cells #[.string ⟨#[]⟩,.int .i64 0,.int .i64 0,.int .i64 0,.int .i64 0,.bool false,.slice none 0 0] 81)) wr)) (fun i _=>l.length-(intOf i).toNat)
 case atStart=>exact ⟨0,Nat.zero_le _,rfl,HC,ah (Below.refl _ _)⟩
 case round=>
  obtain ⟨k,hk,rfl,HR,bA⟩:=hrel;have Oc:=bA.out.size;simp only [World.size_alloc] at Oc;have Gf:Below w.heap.size w wr:=(((Below.refl _ _).alloc (Nat.le_refl _) _).alloc (by simp) _).trans (bA.out.mono (by omega));have z0:wr.cell? ⟨w.heap.size+1,0,none⟩=some (.string ⟨#[]⟩):=(bA.out.cell (p:=⟨w.heap.size+1,0,none⟩) (by simp)).trans (by simp [go_sem]);have z1:wr.cell? ⟨w.heap.size+1,1,none⟩=some (.int .i64 0):=(bA.out.cell (p:=⟨w.heap.size+1,1,none⟩) (by simp)).trans (by simp [go_sem]);have z2:wr.cell? ⟨w.heap.size+1,2,none⟩=some (.int .i64 0):=(bA.out.cell (p:=⟨w.heap.size+1,2,none⟩) (by simp)).trans (by simp [go_sem]);have z3:wr.cell? ⟨w.heap.size+1,3,none⟩=some (.int .i64 0):=(bA.out.cell (p:=⟨w.heap.size+1,3,none⟩) (by simp)).trans (by simp [go_sem]);have z4:wr.cell? ⟨w.heap.size+1,4,none⟩=some (.int .i64 0):=(bA.out.cell (p:=⟨w.heap.size+1,4,none⟩) (by simp)).trans (by simp [go_sem]);have z5:wr.cell? ⟨w.heap.size+1,5,none⟩=some (.bool false):=(bA.out.cell (p:=⟨w.heap.size+1,5,none⟩) (by simp)).trans (by simp [go_sem]);have z6:wr.cell? ⟨w.heap.size+1,6,none⟩=some (.slice none 0 0):=(bA.out.cell (p:=⟨w.heap.size+1,6,none⟩) (by simp)).trans (by simp [go_sem]);have y0:wr.frozen? ⟨w.heap.size+1,0,none⟩=false:=(bA.out.frozen (p:=⟨w.heap.size+1,0,none⟩) (by simp)).trans (by simp [go_sem]);have y1:wr.frozen? ⟨w.heap.size+1,1,none⟩=false:=(bA.out.frozen (p:=⟨w.heap.size+1,1,none⟩) (by simp)).trans (by simp [go_sem]);have y2:wr.frozen? ⟨w.heap.size+1,2,none⟩=false:=(bA.out.frozen (p:=⟨w.heap.size+1,2,none⟩) (by simp)).trans (by simp [go_sem]);have y3:wr.frozen? ⟨w.heap.size+1,3,none⟩=false:=(bA.out.frozen (p:=⟨w.heap.size+1,3,none⟩) (by simp)).trans (by simp [go_sem]);have y4:wr.frozen? ⟨w.heap.size+1,4,none⟩=false:=(bA.out.frozen (p:=⟨w.heap.size+1,4,none⟩) (by simp)).trans (by simp [go_sem]);have y5:wr.frozen? ⟨w.heap.size+1,5,none⟩=false:=(bA.out.frozen (p:=⟨w.heap.size+1,5,none⟩) (by simp)).trans (by simp [go_sem]);have y6:wr.frozen? ⟨w.heap.size+1,6,none⟩=false:=(bA.out.frozen (p:=⟨w.heap.size+1,6,none⟩) (by simp)).trans (by simp [go_sem]);have hwr:w.heap.size+1<wr.heap.size:=by omega
  have GY:=ah (show ∀W,Below w.heap.size w W→∀u0 u1 u2 u3 u4 u5 u6,Below w.heap.size w (((((((W.setCell ⟨w.heap.size+1,0,none⟩ u0).setCell ⟨w.heap.size+1,1,none⟩ u1).setCell ⟨w.heap.size+1,2,none⟩ u2).setCell ⟨w.heap.size+1,3,none⟩ u3).setCell ⟨w.heap.size+1,4,none⟩ u4).setCell ⟨w.heap.size+1,5,none⟩ u5).setCell ⟨w.heap.size+1,6,none⟩ u6) from fun W hW u0 u1 u2 u3 u4 u5 u6=>(((((((hW.setCell (p:=⟨w.heap.size+1,0,none⟩) (by simp;try omega) u0).setCell (p:=⟨w.heap.size+1,1,none⟩) (by simp;try omega) u1).setCell (p:=⟨w.heap.size+1,2,none⟩) (by simp;try omega) u2).setCell (p:=⟨w.heap.size+1,3,none⟩) (by simp;try omega) u3).setCell (p:=⟨w.heap.size+1,4,none⟩) (by simp;try omega) u4).setCell (p:=⟨w.heap.size+1,5,none⟩) (by simp;try omega) u5).setCell (p:=⟨w.heap.size+1,6,none⟩) (by simp;try omega) u6));by_cases hlt:k<l.length
  ·obtain ⟨b,off,cap',hsl,hbb,_,hc⟩:=HG.out (by omega);injection hsl with hs1 hs2 hs3;subst hs1 hs3;obtain ⟨rv,tX,hcc⟩:=hc k hlt;obtain ⟨d0,d1,d2,d3,d4,d5,d6⟩:=hcc wr (Gf.mono hBw);have NW:=ah tX;have hbr:b<wr.heap.size:=by omega
   have HY:=ah (oV (jZ nm.data.toList) l k hlt);have HN:=ah (tu (jZ nm.data.toList) l k hlt);have HT:=ah (show jZ nm.data.toList l[k]=decide (l[k].name.data.toList=nm.data.toList) from rfl);have HPS:=ah (yT.out.2 k hlt);obtain ⟨ro,bD,rfl⟩:=qj tX;have nM:=ah Gf;clear hc hcc tX yT Gf;generalize jZ nm.data.toList l[k]=T at *;generalize kC:l[k]=rk at *;clear kC;obtain ⟨xn,xg,xs,xf,xd,xb,xl⟩:=rk;simp only at *;by_cases he:xn.data.toList=nm.data.toList
   ·have h2:(xn.toList==nm.toList)=true:=by rw [Lib.toList_data,Lib.toList_data];simpa using he
    have HV:=ah (HPS.out (HR.out.trans (HY.out (by rw [HT.out];simpa using he))));clear he;go_wp2_with fail;exact bodyPost_ret (v:=.tuple #[.agg #[.string xn,.int .i64 xg,.int .i64 xs,.int .i64 xf,.int .i64 xd,.bool xb,.slice ro xl.length bD],.bool true]) (by simp [results,Tryz.results76,go_sem,z0,z1,z2,z3,z4,z5,z6,hwr]) rfl ⟨_,by rw [HV.out]<;>rfl,by rw [HV.out];exact ⟨_,rfl,NW.out.below (((GY.out _ nM.out _ _ _ _ _ _ _).alloc (by simp;omega) _).mono hBw)⟩,(GY.out _ nM.out _ _ _ _ _ _ _).alloc (by simp;omega) _⟩
   ·have h2:(xn.toList==nm.toList)=false:=by rw [Lib.toList_data,Lib.toList_data];simpa using he
    have HV:=ah (HR.out.trans (HN.out (by rw [HT.out];simpa using he)));clear he;have vV:=ah (bA.out.alloc (by omega) (.cells #[.string xn,.int .i64 xg,.int .i64 xs,.int .i64 xf,.int .i64 xd,.bool xb,.slice ro xl.length bD] 81));go_wp2_with fail;go_roundw
    case rel=>exact ⟨k+1,by omega,by go_num,HV,vV⟩
    case measure=>simp [intOf];omega
  ·have HV:=ah (yT.out.1 (by rw [HR.out,oW _ l k (by omega)]));have nM:=ah Gf;clear Gf;have hkk:k=l.length:=by omega
   subst hkk;go_wp2_with fail;exact bodyPost_ret (v:=.tuple #[.agg #[.string ⟨#[]⟩,.int .i64 0,.int .i64 0,.int .i64 0,.int .i64 0,.bool false,.slice none 0 0],.bool false]) (by simp [results,Tryz.results76,go_sem,z0,z1,z2,z3,z4,z5,z6]) rfl ⟨_,by rw [HV.out]<;>rfl,by rw [HV.out];rfl,GY.out _ nM.out _ _ _ _ _ _ _⟩
def aH (W:World) (b:Nat) (T:TypeId) (cs:Array Value):Prop:=W.heap[b]?=some (.cells cs T)
theorem aH.new (w:World) (cs:Array Value) (T:TypeId):aH (w.alloc (.cells cs T)) w.heap.size T cs:=heap_alloc_new w _
theorem aH.lt {W:World} {b:Nat} {T:TypeId} {cs:Array Value} (h:aH W b T cs):b<W.heap.size:=by
 unfold aH at h;by_cases c:b<W.heap.size
 ·exact c
 ·rw [Array.getElem?_eq_none (by omega)] at h;cases h
theorem aH.below {W W':World} {b:Nat} {T:TypeId} {cs:Array Value} (h:aH W b T cs) (hb:Below W.heap.size W W'):aH W' b T cs:=(hb.block b h.lt).trans h
theorem aH.alloc {W:World} {b:Nat} {T:TypeId} {cs:Array Value} (h:aH W b T cs) (o:Obj):aH (W.alloc o) b T cs:=h.below ((Below.refl _ _).alloc (Nat.le_refl _) o)
theorem aH.cell {W:World} {b i:Nat} {T:TypeId} {cs:Array Value} {v:Value} (h:aH W b T cs) (hi:cs[i]?=some v):W.cell? ⟨b,i,none⟩=some v:=by
 unfold aH at h;simp [World.cell?,h,hi]
theorem aH.set {W:World} {b:Nat} {T:TypeId} {cs:Array Value} (h:aH W b T cs) (i:Nat) (v:Value):aH (W.setCell ⟨b,i,none⟩ v) b T (cs.setIfInBounds i v):=by
 unfold aH at *;exact heap_setCell_same W b i cs T v h
theorem aH.frozen {W:World} {b:Nat} {T:TypeId} {cs:Array Value} (h:aH W b T cs) (i:Nat):W.frozen? ⟨b,i,none⟩=false:=frozen_of_row W b i cs T h
def Other (w w':World) (T':TypeId):Prop:=∃r,w.grownBy w' r∧∀g,r=some g→∃cs fz,w.heap[g]?=some (.cells cs T' fz)
theorem Other.row {w w':World} {T':TypeId} {base s n:Nat} {v:Value} {xs:List Value} (h:w.ownsRow base T' s v n xs) (hg:w.grownBy w' v.ownBlock):Other w w' T':=by
 refine ⟨_,hg,fun g hgg=>?_⟩;rcases h.2 with ⟨rfl,_⟩ | ⟨g',cap,cur,rfl,_,h1,_⟩
 ·simp [Value.ownBlock] at hgg
 ·simp [Value.ownBlock] at hgg;subst hgg;exact ⟨_,_,h1⟩
theorem Other.own {w w':World} {T':TypeId} (h:Other w w' T') {base s n:Nat} {T:TypeId} {v:Value} {xs:List Value} (ho:w.ownsRow base T s v n xs) (hT:T≠T'):w'.ownsRow base T s v n xs:=by
 obtain ⟨r,hg,hr⟩:=h;refine ho.kept hg ?_;rcases ho.2 with ⟨rfl,_⟩ | ⟨g,cap,cur,rfl,_,h1,_⟩
 ·exact .inl rfl
 ·refine .inr ?_
  cases r with
  | none=>simp [Value.ownBlock]
  | some g'=>
   obtain ⟨cs,fz,h2⟩:=hr g' rfl;simp only [Value.ownBlock,ne_eq,Option.some.injEq];intro e;subst e;rw [h1] at h2;injection h2 with h2;injection h2 with _ h3;exact hT h3
theorem Other.Lp {w w':World} {T' T:TypeId} (h:Other w w' T') {b:Nat} {cs:Array Value} (ho:aH w b T cs) (hT:T≠T'):aH w' b T cs:=by
 obtain ⟨r,hg,hr⟩:=h;refine (hg.block b ho.lt ?_).trans ho;intro e;obtain ⟨cs',fz,h2⟩:=hr b e.symm;unfold aH at ho;rw [ho] at h2;injection h2 with h2;injection h2 with _ h3;exact hT h3
theorem Other.size {w w':World} {T':TypeId} (h:Other w w' T'):w.heap.size≤w'.heap.size:=by
 obtain ⟨r,hg,_⟩:=h;exact hg.size
theorem Other.refl (w:World) (T:TypeId):Other w w T:=⟨none,⟨rfl,rfl,rfl,Nat.le_refl _,fun _ _ _=>rfl⟩,by simp⟩
theorem aH.setOther {W:World} {b b' i:Nat} {T:TypeId} {cs:Array Value} (h:aH W b T cs) (hb:b≠b') (v:Value):aH (W.setCell ⟨b',i,none⟩ v) b T cs:=(Below.heap_setCell W ⟨b',i,none⟩ v b (by simpa using hb)).trans h
end Go.Proofs.YtopmdeefcjdadaaGreat
namespace Go.Proofs.YtopmdeefcjdadaaGreat
open Go.ChangeShapes Go.WideShapes Go.RowKit Go.Deep
structure dM where
 unit:Int
 par:ByteArray
 lv:Int
instance:Inhabited dM:=⟨⟨0,ByteArray.empty,0⟩⟩
def fH (s:dM):List Value:=[.int .i64 s.unit,.string s.par,.int .i64 s.lv]
def lH (B:Nat) (w:World) (v:Value) (l:List dM):Prop:=aW B w v l.length (l.flatMap fH)
def sJ (s:dM):Prop:=pK s.unit∧s.par.size≤maxLen∧pK s.lv
theorem lH.below {B:Nat} {w w':World} {v:Value} {l:List dM} (h:lH B w v l) (hb:Below B w w'):lH B w' v l:=aW.below h hb
theorem lH.more {B B':Nat} {w:World} {v:Value} {l:List dM} (h:lH B w v l) (hB:B≤B'):lH B' w v l:=aW.more h hB
theorem lH.get {B:Nat} {w:World} {v:Value} {l:List dM} (h:lH B w v l) (hl:0<l.length) :
  ∃b off cap,v=.slice (some ⟨b,off,none⟩) l.length cap∧b<B∧l.length≤maxLen∧∀k (hk:k<l.length) (W:World),Below B w W→
   W.cell? ⟨b,off+k*3,none⟩=some (.int .i64 l[k].unit)∧W.cell? ⟨b,off+k*3+1,none⟩=some (.string l[k].par)∧W.cell? ⟨b,off+k*3+2,none⟩=some (.int .i64 l[k].lv):=by
 obtain ⟨b,off,cap,rfl,h1,h2,h3⟩:=aW.rec h (n:=3) (fun _=>rfl) hl;refine ⟨b,off,cap,rfl,h1,h2,fun k hk W hW=>?_⟩;exact ⟨(hW.cell (p:=⟨b,off+k*3,none⟩) h1).trans (h3 k hk 0 _ (by omega) rfl),(hW.cell (p:=⟨b,off+k*3+1,none⟩) h1).trans (h3 k hk 1 _ (by omega) rfl),(hW.cell (p:=⟨b,off+k*3+2,none⟩) h1).trans (h3 k hk 2 _ (by omega) rfl)⟩
section
variable {H:Type} {enc:TypeId×Value→H} {w:World} {held:Bool}
theorem Mg {fuel:Nat} {cs:List Value} {x:DataW H×List MemPlace} (h:DataW.trod enc Tryz.prog w 0 (fun _=>true) held fuel 40 cs=some x) :
  ∃(n:Int) (s:ByteArray),cs=[.int .i64 n,.string s]∧pK n∧s.size≤maxLen:=by
 have hc:Tryz.prog.cellsOf 40=2:=by kernel_rfl
 obtain ⟨hl,n,hf⟩:=fI Tryz.underlying40 (by kernel_rfl) hc h;obtain ⟨u0,u1,rfl⟩:=Kt hl;obtain ⟨x0,y0,q0,k0⟩:=hf 0 _ rfl;obtain ⟨x1,y1,q1,k1⟩:=hf 1 _ rfl;simp at q0 q1;subst q0 q1;obtain ⟨a0,rfl,w0⟩:=bU Tryz.underlying3 k0;obtain ⟨a1,rfl,w1⟩:=kL Tryz.underlying9 k1;exact ⟨a0,a1,rfl,bT w0,w1⟩
theorem fxInt_:Tryz.prog.cellsOf 3=1:=by kernel_rfl
theorem fxKey_:Tryz.prog.cellsOf 40=2:=by kernel_rfl
theorem Dt {fuel:Nat} {cs:List Value} {x:DataW H×List MemPlace} (h:DataW.trod enc Tryz.prog w 0 (fun _=>true) held fuel 42 cs=some x) :
  ∃y:dM,cs=fH y∧sJ y:=by
 have hc:Tryz.prog.cellsOf 42=3:=by kernel_rfl
 obtain ⟨hl,n,hf⟩:=rU Tryz.underlying42 h;rw [hc] at hl;obtain ⟨u0,u1,u2,rfl⟩:=list3' hl;obtain ⟨y0,k0⟩:=hf 0 _ rfl;obtain ⟨y1,k1⟩:=hf 1 _ rfl;simp only [List.getElem_toArray,List.getElem_cons_zero,List.getElem_cons_succ,fxInt_,fxKey_,List.drop_zero,List.drop_succ_cons,List.take_succ_cons,List.take_zero] at k0 k1;obtain ⟨a0,a1,e,f0,f1⟩:=Mg k0;simp at e;obtain ⟨rfl,rfl⟩:=e;obtain ⟨a2,rfl,w2⟩:=bU Tryz.underlying3 k1;exact ⟨⟨a0,a1,a2⟩,rfl,f0,f1,bT w2⟩
def StgW (w:World) (v:Value):Prop:=∃l:List dM,lH w.heap.size w v l∧∀p∈l,sJ p
theorem open_settings {r:Reach} {b0:Nat} {v:Value} {d:DataW H} {p:List MemPlace} (hv:Value.okWide Tryz.prog w r b0 33 v) (h:DataW.Trod enc Tryz.prog w 0 (fun _=>true) held 33 v d p) :
  ∃a:Value,v=a∧StgW w a:=by
 obtain ⟨ao,len,cap,rfl⟩:=okWide_slice Tryz.underlying33 hv;obtain ⟨fuel,hf⟩:=h;obtain ⟨v,l,e,hl⟩:=mU (n:=3) fH sJ (fun _=>rfl) (by omega) Tryz.underlying33 (by kernel_rfl) (fun _ _ _ h=>Dt h) hf;simp [Value.cells] at e;subst e;exact ⟨_,rfl,l,hl⟩
end
end Go.Proofs.YtopmdeefcjdadaaGreat
namespace Go.Proofs.YtopmdeefcjdadaaGreat
open Go.RowKit
structure Frm where
 univ:Int
 sl:List Int
instance:Inhabited Frm:=⟨⟨0,[]⟩⟩
def rT (lib:List Prf) (u:gX):List jy:=((cZ lib u.nm).map Prf.iY).getD []
theorem wU {x:iK} (h:bR x=0) {u:gX} (hu:u∈x.aF):∃p,cZ x.lib u.nm=some p∧p.iY.length≤40∧(1≤u.addr∧u.addr+p.size-1≤512)∧∀q∈p.iY,(1≤q.sl∧q.sl≤p.size)∧(0≤q.fine∧q.fine≤p.size):=by
 obtain ⟨h1,h2,h3⟩:=jk h;obtain ⟨k,hk,rfl⟩:=List.getElem_of_mem hu;obtain ⟨_,_,⟨p,h4,h5⟩,_⟩:=mQ (fP _ _ h3 k hk);have h6:=oh (qE h1 (lN h4).1);refine ⟨p,h4,h6.2.2.2.1,⟨(kE h5).2.1.1,(kE h5).2.2⟩,fun q hq=>?_⟩;obtain ⟨j,hj,rfl⟩:=List.getElem_of_mem hq;have h7:=mH (sZ (fP _ _ h6.2.2.2.2 j hj)).2.2.2.1;exact ⟨h7.1,h7.2.1⟩
theorem flat_le {α β:Type} (f:α→List β) (c:Nat) (l:List α) (h:∀x∈l,(f x).length≤c):(l.flatMap f).length≤c*l.length:=by
 induction l with
 | nil=>simp
 | cons a l ih=>
  have h1:=h a (by simp);have h2:=ih (fun x hx=>h x (by simp [hx]));simp only [List.flatMap_cons,List.length_append,List.length_cons,Nat.mul_add,Nat.mul_one];omega
structure KeyR where
 unit:Int
 par:ByteArray
instance:Inhabited KeyR:=⟨⟨0,ByteArray.empty⟩⟩
theorem zq (v u:Value) (l:List dM) (w:World) (hv:lH w.heap.size w v l) (hu:lH w.heap.size w u l) :
  Calls Tryz.prog 9 #[v,u] w fun e w'=>e=.returned (.bool true)∧Below w.heap.size w w':=by
 have HX:=ah (lH.get hv);have HY:=ah (lH.get hu)
 have hl:l.length≤9223372036854775807:=by
  have h:=aW.len hv;unfold maxLen at h;omega
 obtain ⟨ao,cap,rfl,_⟩:=aW.shape hv;obtain ⟨bo,cap2,rfl,_⟩:=aW.shape hu;clear hv hu;go_enter Tryz.func9,Tryz.ntmps9;go_wp2
 go_loopw [13] (fun i wr=>∃k:Nat,k≤l.length∧i=.int .i64 k∧∃n,wr=w.drewN n) (fun i _=>l.length-(intOf i).toNat)
 case atStart=>exact ⟨0,Nat.zero_le _,rfl,0,rfl⟩
 case round=>
  obtain ⟨k,hk,rfl,n,rfl⟩:=hrel;by_cases hlt:k<l.length
  ·obtain ⟨b,off,_,e0,hbb,_,hc⟩:=HX.out (by omega);injection e0 with e1 _ e3;subst e1 e3;obtain ⟨b',off',_,e0,hbb',_,hc'⟩:=HY.out (by omega);injection e0 with e1 _ e3;subst e1 e3;obtain ⟨c0,c1,c2⟩:=hc k hlt w (Below.refl _ _);obtain ⟨d0,d1,d2⟩:=hc' k hlt w (Below.refl _ _);clear hc hc' HX HY;generalize l[k].unit=z0 at *;generalize l[k].par=z1 at *;generalize l[k].lv=z2 at *;go_wp2
   go_quiet (fail)
   go_wp2
   go_roundw
   case rel=>exact ⟨k+1,by omega,by go_num,_,rfl⟩
   case measure=>simp [intOf];omega
  ·obtain rfl:k=l.length:=by omega
   go_wp2
   go_ret;exact ⟨rfl,fC (Below.refl _ _) _⟩
end Go.Proofs.YtopmdeefcjdadaaGreat
namespace Go.Proofs.YtopmdeefcjdadaaGreat
open Go.RowKit
open Go (info_parts)
def cu (base:Nat) (w:World) (v:Value) (l:List dM):Prop:=w.ownsRow base 42 3 v l.length (l.flatMap fH)
theorem cu.nil (base:Nat) (w:World):cu base w (.slice none 0 0) []:=World.ownsRow_nil w base _ _
theorem cu.shape {base:Nat} {w:World} {v:Value} {l:List dM} (h:cu base w v l):∃ao cap,v=.slice ao l.length cap:=by
 rcases h.2 with h' | ⟨g,cap,cur,e1,_⟩
 ·exact ⟨none,0,by rw [h'.1,h'.2]⟩
 ·exact ⟨_,cap,e1⟩
theorem cu.below {base:Nat} {w w':World} {v:Value} {l:List dM} (h:cu base w v l) (hb:Below w.heap.size w w'):cu base w' v l:=by
 refine ⟨h.1,?_⟩;rcases h.2 with h' | ⟨g,cap,cur,e1,h1,h2,h3⟩
 ·exact .inl h'
 ·exact .inr ⟨g,cap,cur,e1,h1,(hb.block g (World.ownsRow.lt h g (by rw [e1];rfl)).2).trans h2,h3⟩
theorem cu.keeps {B base:Nat} {a w w':World} {v:Value} {l:List dM} (ho:cu base w v l) (h:Below B a w) (g:w.grownBy w' v.ownBlock) (hB:B≤base) (hs:B≤w.heap.size):Below B a w':=
 h.grown g hs (fun k hk=>by have:=(World.ownsRow.lt ho k hk).1;omega)
theorem F8:(Tryz.prog.info? 42).map (fun i=>(i.zero,i.size,i.bytes))=some (some (.agg #[.int .i64 0,.string ⟨#[]⟩,.int .i64 0]),3,32):=by kernel_rfl
theorem xW {w:World} {ops:Array Oper} {rest:List Oper} {o:Oper} {a:Act} {Q:Exit→Act→World→Prop} (hgd:o.guard=none) (s x:Operand)
  (hop:o.op=.call { callee:=.builtin .append,args:=#[s,x],argTypes:=#[33,33] })
  (base c:Nat) (v:Value) (l:List dM) (y:dM) (ad:Addr) (hs:a.eval s=v) (hx:a.eval x=.slice (some ad) 1 c)
  (ho:cu base w v l) (hc:∀(j:Nat) u,(fH y)[j]?=some u→w.cell? (ad.add j)=some u) (hl:l.length≤10000000) (hb:base≤w.heap.size)
  (h:∀v' w',cu base w' v' (l++[y])→w.grownBy w' v.ownBlock→wpList Tryz.prog ops Q rest (a.put o.dst v') w'):wpList Tryz.prog ops Q (o::rest) a w:=by
 obtain ⟨i0,hi,hz0,hz1,hz2⟩:=info_parts F8;refine wpList_append_own w hgd s x 33 hop base 42 i0 (.agg #[.int .i64 0,.string ⟨#[]⟩,.int .i64 0]) 3 32 Tryz.underlying33 hi hz0 hz1 hz2 rfl (by decide) v l.length (l.flatMap fH) hs ho ad 1 c (fH y) hx rfl hc (by intro u hu;simp [fH] at hu;rcases hu with rfl | rfl | rfl<;>rfl) (by unfold maxLen;omega) (by omega) hb ?_;intro v' w' h1 h2 _;refine h v' w' ?_ h2;unfold cu;rw [List.flatMap_append,List.length_append];simpa using h1
theorem zS (w:World) (y:dM) (T:TypeId):∀(j:Nat) u,(fH y)[j]?=some u→(w.alloc (.cells #[.int .i64 y.unit,.string y.par,.int .i64 y.lv] T)).cell? ((⟨w.heap.size,0,none⟩:Addr).add j)=some u:=by
 intro j u hu
 match j,hu with
 | 0,hu=>simp [fH] at hu;subst hu;simp [Addr.add,go_sem]
 | 1,hu=>simp [fH] at hu;subst hu;simp [Addr.add,go_sem]
 | 2,hu=>simp [fH] at hu;subst hu;simp [Addr.add,go_sem]
 | j+3,hu=>simp [fH] at hu
theorem cu.stgS {base:Nat} {w:World} {v:Value} {l:List dM} (h:cu base w v l):lH w.heap.size w v l:=aW.uJ h
end Go.Proofs.YtopmdeefcjdadaaGreat
namespace Go.Proofs.YtopmdeefcjdadaaGreat
open Go.RowKit
theorem aH.zw {W:World} {g:Nat} {T:TypeId} {a b c u0 u1 u2:Value} (h:aH W g T #[a,b,c]):aH (((W.setCell ⟨g,0,none⟩ u0).setCell ⟨g,1,none⟩ u1).setCell ⟨g,2,none⟩ u2) g T #[u0,u1,u2]:=by
 have hl:=h.lt;unfold aH at *;have k1:=heap_setCell_same _ _ 0 _ _ u0 h;have k2:=heap_setCell_same _ _ 1 _ _ u1 k1;have k3:=heap_setCell_same _ _ 2 _ _ u2 k2;simpa using k3
theorem aH.drew {W:World} {g:Nat} {T:TypeId} {cs:Array Value} (h:aH W g T cs):aH W.drew g T cs:=h
def gL (x:iK) (n:Int) (nm:List UInt8):Option jy:=match x.aF.find? (kK n) with
 | none=>none
 | some u=>kU (rT x.lib u) nm
theorem find_no {l:List gX} {n:Int} (h:yG l n=false):l.find? (kK n)=none:=by
 rw [List.find?_eq_none];intro u hu c;have:yG l n=true:=List.any_eq_true.2 ⟨u,hu,c⟩;rw [this] at h;cases h
theorem QW {l:List gX} (ha:N8 l) {n:Int} (h:yG l n=true):∃hp:iT l n<l.length,l.find? (kK n)=some (l[iT l n]'hp)∧(l[iT l n]'hp).num=n:=by
 obtain ⟨hp,h1⟩:=(Ky ha n).1 h;refine ⟨hp,?_,h1⟩;have h2:=(F9 ha n).1 h;rcases lC (kK n) l with ⟨h3,_⟩ | ⟨k,hk,h3,h4⟩
 ·unfold Ga at h2;rw [h3] at h2;omega
 ·unfold Ga at h2;rw [h3] at h2;have:k=iT l n:=by omega
  subst this;exact h4
theorem QX {x:iK} {n:Int} (h:yG x.aF n=false) (nm:List UInt8):gL x n nm=none:=by unfold gL;rw [find_no h]
theorem Nk {x:iK} (hx:bR x=0) {n:Int} (h:yG x.aF n=true) (nm:List UInt8):∃(hp:iT x.aF n<x.aF.length) (p:Prf),(x.aF[iT x.aF n]'hp).num=n∧cZ x.lib (x.aF[iT x.aF n]'hp).nm=some p∧gL x n nm=kU p.iY nm:=by
 obtain ⟨hp,h1,h2⟩:=QW (xM hx) h;obtain ⟨p,h3,_⟩:=wU hx (List.getElem_mem hp);refine ⟨hp,p,h2,h3,?_⟩;unfold gL rT;rw [h1];simp only [h3];rfl
theorem pG {W:World} {b:Nat} {T:TypeId} {a0 a1 a2:Value} (h:aH W b T #[a0,a1,a2]):W.cell? ⟨b,0,none⟩=some a0∧W.cell? ⟨b,1,none⟩=some a1∧W.cell? ⟨b,2,none⟩=some a2:=⟨h.cell rfl,h.cell rfl,h.cell rfl⟩
theorem c15 {W:World} {b:Nat} {T:TypeId} {a0 a1 a2 a3 a4 a5 a6 a7 a8 a9 a10 a11 a12 a13 a14:Value} (h:aH W b T #[a0,a1,a2,a3,a4,a5,a6,a7,a8,a9,a10,a11,a12,a13,a14]):W.cell? ⟨b,0,none⟩=some a0∧W.cell? ⟨b,1,none⟩=some a1∧W.cell? ⟨b,2,none⟩=some a2∧W.cell? ⟨b,3,none⟩=some a3∧W.cell? ⟨b,4,none⟩=some a4∧W.cell? ⟨b,5,none⟩=some a5∧W.cell? ⟨b,6,none⟩=some a6∧W.cell? ⟨b,7,none⟩=some a7∧W.cell? ⟨b,8,none⟩=some a8∧W.cell? ⟨b,9,none⟩=some a9∧W.cell? ⟨b,10,none⟩=some a10∧W.cell? ⟨b,11,none⟩=some a11∧W.cell? ⟨b,12,none⟩=some a12∧W.cell? ⟨b,13,none⟩=some a13∧W.cell? ⟨b,14,none⟩=some a14:=⟨h.cell rfl,h.cell rfl,h.cell rfl,h.cell rfl,h.cell rfl,h.cell rfl,h.cell rfl,h.cell rfl,h.cell rfl,h.cell rfl,h.cell rfl,h.cell rfl,h.cell rfl,h.cell rfl,h.cell rfl⟩
end Go.Proofs.YtopmdeefcjdadaaGreat
