import Derived.Test.YtopmdeefcjdadaaGreatT42M00
import Derived.Test.YtopmdeefcjdadaaGreatT42M01
import Derived.Test.YtopmdeefcjdadaaGreatProg
import Derived.WalkKit
import Derived.WalkSpells
import Derived.WalkLawsBesides
import Derived.Lib.Hide
set_option linter.unusedVariables false
set_option linter.unusedSimpArgs false
set_option maxRecDepth 100000
set_option maxHeartbeats 32000000
namespace Go.Proofs.YtopmdeefcjdadaaGreat
open Go.RowKit
def scan {α:Type} (f:List α→α→Int):List α→List α→Int
 | _,[]=>0
 | pre,x::l=>if f pre x≠0 then f pre x else scan f (pre++[x]) l
theorem wO {α:Type} (f:List α→α→Int) (l:List α) (k:Nat) (h:k<l.length) :
  scan f (l.take k) (l.drop k)=if f (l.take k) l[k]≠0 then f (l.take k) l[k] else scan f (l.take (k+1)) (l.drop (k+1)):=by
 rw [List.drop_eq_getElem_cons h,List.take_succ_eq_append_getElem h];rfl
theorem Pj {α:Type} (f:List α→α→Int) (l:List α) (k:Nat) (h:l.length≤k):scan f (l.take k) (l.drop k)=0:=by
 rw [List.drop_of_length_le h];rfl
theorem LG {α:Type} (f:List α→α→Int) (l:List α) (h:scan f [] l=0) (k:Nat) (hk:k<l.length):f (l.take k) l[k]=0:=by
 have key:∀j,j≤l.length→scan f (l.take j) (l.drop j)=0:=by
  intro j
  induction j with
  | zero=>intro _;simpa using h
  | succ j ih=>
   intro hj;have h1:=ih (by omega);rw [wO f l j (by omega)] at h1;by_cases c:f (l.take j) l[j]=0
   ·rw [if_neg (by simpa using c)] at h1;exact h1
   ·rw [if_pos c] at h1;exact absurd h1 c
 have h1:=key k (by omega);rw [wO f l k hk] at h1;by_cases c:f (l.take k) l[k]=0
 ·exact c
 ·rw [if_pos c] at h1;exact absurd h1 c
def bQ {α:Type} (f:List α→α→Int) (l:List α) (k:Nat):Int:=scan f (l.take k) (l.drop k)
theorem zx {α:Type} (f:List α→α→Int) (l:List α) (k:Nat) (h:k<l.length):bQ f l k=if f (l.take k) l[k]≠0 then f (l.take k) l[k] else bQ f l (k+1):=wO f l k h
theorem gD {α:Type} (f:List α→α→Int) (l:List α) (k:Nat) (h:k<l.length) (hf:f (l.take k) l[k]≠0):bQ f l k=f (l.take k) l[k]:=by rw [zx f l k h,if_pos hf]
theorem fD {α:Type} (f:List α→α→Int) (l:List α) (k:Nat) (h:k<l.length) (hf:f (l.take k) l[k]=0):bQ f l k=bQ f l (k+1):=by rw [zx f l k h,if_neg (by simpa using hf)]
theorem gB {α:Type} (f:List α→α→Int) (l:List α) (k:Nat) (h:l.length≤k):bQ f l k=0:=Pj f l k h
theorem EX {α:Type} (f:List α→α→Int) (l:List α):bQ f l 0=scan f [] l:=by simp [bQ]
theorem vK {α:Type} (f:α→List Value) (n:Nat) (hn:∀y,(f y).length=n) (l:List α):(l.flatMap f).length=l.length*n:=by
 induction l with
 | nil=>simp
 | cons a l ih=>
  simp only [List.flatMap_cons,List.length_append,List.length_cons,hn,ih];rw [Nat.succ_mul];omega
theorem flat_get {α:Type} (f:α→List Value) (n:Nat) (hn:∀y,(f y).length=n) (l:List α) (i:Nat) (h:i<l.length) (j:Nat) (hj:j<n):(l.flatMap f)[i*n+j]?=(f l[i])[j]?:=by
 induction l generalizing i with
 | nil=>simp at h
 | cons a l ih=>
  simp only [List.flatMap_cons]
  match i with
  | 0=>
   rw [List.getElem?_append_left (by rw [hn];omega)];simp
  | i+1=>
   have:=ih i (by simpa using h);rw [List.getElem?_append_right (by rw [hn,Nat.succ_mul];omega),hn];rw [show (i+1)*n+j-n=i*n+j by rw [Nat.succ_mul];omega];simpa using this
theorem Cr {α:Type} (f:α→List Value) (n:Nat) (hn:∀y,(f y).length=n) (l:List α) (k:Nat) (hk:k≤l.length):(l.flatMap f).take (k*n)=(l.take k).flatMap f:=by
 induction l generalizing k with
 | nil=>simp
 | cons a l ih=>
  match k with
  | 0=>simp
  | k+1=>
   simp only [List.flatMap_cons,List.take_succ_cons];rw [Nat.succ_mul,Nat.add_comm (k*n) n,List.take_append,hn,List.take_of_length_le (by rw [hn];omega)];rw [show n+k*n-n=k*n by omega,ih k (by simpa using hk)]
theorem aW.rec {α:Type} {f:α→List Value} {n:Nat} {B:Nat} {w:World} {v:Value} {l:List α} (h:aW B w v l.length (l.flatMap f)) (hn:∀y,(f y).length=n) (hl:0<l.length) :
  ∃b off cap,v=.slice (some ⟨b,off,none⟩) l.length cap∧b<B∧l.length≤maxLen∧∀i (hi:i<l.length) j u,j<n→(f l[i])[j]?=some u→w.cell? ⟨b,off+(i*n+j),none⟩=some u:=by
 obtain ⟨ao,cap,rfl,h1,h2,h3⟩:=h;obtain ⟨b,off,rfl,h4,h5⟩:=h3 hl;refine ⟨b,off,cap,rfl,h4,Nat.le_trans h1 h2,fun i hi j u hj hu=>h5 _ _ ?_⟩;rw [flat_get f n hn l i hi j hj];exact hu
theorem aW.len {B:Nat} {w:World} {v:Value} {n:Nat} {xs:List Value} (h:aW B w v n xs):n≤maxLen:=by
 obtain ⟨ao,cap,rfl,h1,h2,h3⟩:=h;exact Nat.le_trans h1 h2
theorem aW.shape {B:Nat} {w:World} {v:Value} {n:Nat} {xs:List Value} (h:aW B w v n xs):∃ao cap,v=.slice ao n cap∧n≤cap∧cap≤maxLen:=by
 obtain ⟨ao,cap,rfl,h1,h2,h3⟩:=h;exact ⟨ao,cap,rfl,h1,h2⟩
structure uj where
 low:Int
 aD:Int
 name:ByteArray
structure jy where
 name:ByteArray
 Oh:Int
 sl:Int
 fine:Int
 dflt:Int
 snap:Bool
 pY:List uj
structure Prf where
 name:ByteArray
 size:Int
 iY:List jy
structure gX where
 num:Int
 zQ:ByteArray
 univ:Int
 addr:Int
structure iK where
 lib:List Prf
 aF:List gX
def rngC (r:uj):List Value:=[.int .i64 r.low,.int .i64 r.aD,.string r.name]
def parC (p:jy×Value):List Value:=[.string p.1.name,.int .i64 p.1.Oh,.int .i64 p.1.sl,.int .i64 p.1.fine,.int .i64 p.1.dflt,.bool p.1.snap,p.2]
def prfC (p:Prf×Value):List Value:=[.string p.1.name,.int .i64 p.1.size,p.2]
def untC (u:gX):List Value:=[.int .i64 u.num,.string u.zQ,.int .i64 u.univ,.int .i64 u.addr]
def nL (B:Nat) (w:World) (v:Value) (l:List uj):Prop:=aW B w v l.length (l.flatMap rngC)
def jI (B:Nat) (w:World) (v:Value) (l:List jy):Prop:=
 ∃lv:List (jy×Value),lv.map (·.1)=l∧aW B w v lv.length (lv.flatMap parC)∧∀y∈lv,nL B w y.2 y.1.pY
def jD (B:Nat) (w:World) (v:Value) (l:List Prf):Prop:=
 ∃lv:List (Prf×Value),lv.map (·.1)=l∧aW B w v lv.length (lv.flatMap prfC)∧∀y∈lv,jI B w y.2 y.1.iY
def qH (B:Nat) (w:World) (v:Value) (l:List gX):Prop:=aW B w v l.length (l.flatMap untC)
theorem nL.below {B:Nat} {w w':World} {v:Value} {l:List uj} (h:nL B w v l) (hb:Below B w w'):nL B w' v l:=aW.below h hb
theorem nL.more {B B':Nat} {w:World} {v:Value} {l:List uj} (h:nL B w v l) (hB:B≤B'):nL B' w v l:=aW.more h hB
theorem jI.below {B:Nat} {w w':World} {v:Value} {l:List jy} (h:jI B w v l) (hb:Below B w w'):jI B w' v l:=by
 obtain ⟨lv,h1,h2,h3⟩:=h;exact ⟨lv,h1,h2.below hb,fun y hy=>(h3 y hy).below hb⟩
theorem jI.more {B B':Nat} {w:World} {v:Value} {l:List jy} (h:jI B w v l) (hB:B≤B'):jI B' w v l:=by
 obtain ⟨lv,h1,h2,h3⟩:=h;exact ⟨lv,h1,h2.more hB,fun y hy=>(h3 y hy).more hB⟩
theorem jD.below {B:Nat} {w w':World} {v:Value} {l:List Prf} (h:jD B w v l) (hb:Below B w w'):jD B w' v l:=by
 obtain ⟨lv,h1,h2,h3⟩:=h;exact ⟨lv,h1,h2.below hb,fun y hy=>(h3 y hy).below hb⟩
theorem jD.more {B B':Nat} {w:World} {v:Value} {l:List Prf} (h:jD B w v l) (hB:B≤B'):jD B' w v l:=by
 obtain ⟨lv,h1,h2,h3⟩:=h;exact ⟨lv,h1,h2.more hB,fun y hy=>(h3 y hy).more hB⟩
theorem qH.below {B:Nat} {w w':World} {v:Value} {l:List gX} (h:qH B w v l) (hb:Below B w w'):qH B w' v l:=aW.below h hb
theorem qH.more {B B':Nat} {w:World} {v:Value} {l:List gX} (h:qH B w v l) (hB:B≤B'):qH B' w v l:=aW.more h hB
theorem nL.get {B:Nat} {w:World} {v:Value} {l:List uj} (h:nL B w v l) (hl:0<l.length) :
  ∃b off cap,v=.slice (some ⟨b,off,none⟩) l.length cap∧b<B∧l.length≤maxLen∧∀k (hk:k<l.length) (W:World),Below B w W→
   W.cell? ⟨b,off+k*3,none⟩=some (.int .i64 l[k].low)∧W.cell? ⟨b,off+k*3+1,none⟩=some (.int .i64 l[k].aD)∧W.cell? ⟨b,off+k*3+2,none⟩=some (.string l[k].name):=by
 obtain ⟨b,off,cap,rfl,h1,h2,h3⟩:=aW.rec h (n:=3) (fun _=>rfl) hl;refine ⟨b,off,cap,rfl,h1,h2,fun k hk W hW=>?_⟩;exact ⟨(hW.cell (p:=⟨b,off+k*3,none⟩) h1).trans (h3 k hk 0 _ (by omega) rfl),(hW.cell (p:=⟨b,off+k*3+1,none⟩) h1).trans (h3 k hk 1 _ (by omega) rfl),(hW.cell (p:=⟨b,off+k*3+2,none⟩) h1).trans (h3 k hk 2 _ (by omega) rfl)⟩
theorem jI.get {B:Nat} {w:World} {v:Value} {l:List jy} (h:jI B w v l) (hl:0<l.length) :
  ∃b off cap,v=.slice (some ⟨b,off,none⟩) l.length cap∧b<B∧l.length≤maxLen∧∀k (hk:k<l.length),∃rv,nL B w rv l[k].pY∧∀(W:World),Below B w W→
   W.cell? ⟨b,off+k*7,none⟩=some (.string l[k].name)∧W.cell? ⟨b,off+k*7+1,none⟩=some (.int .i64 l[k].Oh)∧W.cell? ⟨b,off+k*7+2,none⟩=some (.int .i64 l[k].sl)∧W.cell? ⟨b,off+k*7+3,none⟩=some (.int .i64 l[k].fine)∧W.cell? ⟨b,off+k*7+4,none⟩=some (.int .i64 l[k].dflt)∧W.cell? ⟨b,off+k*7+5,none⟩=some (.bool l[k].snap)∧W.cell? ⟨b,off+k*7+6,none⟩=some rv:=by
 obtain ⟨lv,rfl,h1,h2⟩:=h;obtain ⟨b,off,cap,rfl,h3,h4,h5⟩:=aW.rec h1 (n:=7) (fun _=>rfl) (by simpa using hl);refine ⟨b,off,cap,by simp,h3,by simpa using h4,fun k hk=>?_⟩;have hk':k<lv.length:=by simpa using hk
 refine ⟨lv[k].2,by simpa using h2 _ (List.getElem_mem hk'),fun W hW=>?_⟩;simp only [List.getElem_map];exact ⟨(hW.cell (p:=⟨b,off+k*7,none⟩) h3).trans (h5 k hk' 0 _ (by omega) rfl),(hW.cell (p:=⟨b,off+k*7+1,none⟩) h3).trans (h5 k hk' 1 _ (by omega) rfl),(hW.cell (p:=⟨b,off+k*7+2,none⟩) h3).trans (h5 k hk' 2 _ (by omega) rfl),(hW.cell (p:=⟨b,off+k*7+3,none⟩) h3).trans (h5 k hk' 3 _ (by omega) rfl),(hW.cell (p:=⟨b,off+k*7+4,none⟩) h3).trans (h5 k hk' 4 _ (by omega) rfl),(hW.cell (p:=⟨b,off+k*7+5,none⟩) h3).trans (h5 k hk' 5 _ (by omega) rfl),(hW.cell (p:=⟨b,off+k*7+6,none⟩) h3).trans (h5 k hk' 6 _ (by omega) rfl)⟩
theorem jD.get {B:Nat} {w:World} {v:Value} {l:List Prf} (h:jD B w v l) (hl:0<l.length) :
  ∃b off cap,v=.slice (some ⟨b,off,none⟩) l.length cap∧b<B∧l.length≤maxLen∧∀k (hk:k<l.length),∃pv,jI B w pv l[k].iY∧∀(W:World),Below B w W→
   W.cell? ⟨b,off+k*3,none⟩=some (.string l[k].name)∧W.cell? ⟨b,off+k*3+1,none⟩=some (.int .i64 l[k].size)∧W.cell? ⟨b,off+k*3+2,none⟩=some pv:=by
 obtain ⟨lv,rfl,h1,h2⟩:=h;obtain ⟨b,off,cap,rfl,h3,h4,h5⟩:=aW.rec h1 (n:=3) (fun _=>rfl) (by simpa using hl);refine ⟨b,off,cap,by simp,h3,by simpa using h4,fun k hk=>?_⟩;have hk':k<lv.length:=by simpa using hk
 refine ⟨lv[k].2,by simpa using h2 _ (List.getElem_mem hk'),fun W hW=>?_⟩;simp only [List.getElem_map];exact ⟨(hW.cell (p:=⟨b,off+k*3,none⟩) h3).trans (h5 k hk' 0 _ (by omega) rfl),(hW.cell (p:=⟨b,off+k*3+1,none⟩) h3).trans (h5 k hk' 1 _ (by omega) rfl),(hW.cell (p:=⟨b,off+k*3+2,none⟩) h3).trans (h5 k hk' 2 _ (by omega) rfl)⟩
theorem qH.get {B:Nat} {w:World} {v:Value} {l:List gX} (h:qH B w v l) (hl:0<l.length) :
  ∃b off cap,v=.slice (some ⟨b,off,none⟩) l.length cap∧b<B∧l.length≤maxLen∧∀k (hk:k<l.length) (W:World),Below B w W→
   W.cell? ⟨b,off+k*4,none⟩=some (.int .i64 l[k].num)∧W.cell? ⟨b,off+k*4+1,none⟩=some (.string l[k].zQ)∧W.cell? ⟨b,off+k*4+2,none⟩=some (.int .i64 l[k].univ)∧W.cell? ⟨b,off+k*4+3,none⟩=some (.int .i64 l[k].addr):=by
 obtain ⟨b,off,cap,rfl,h1,h2,h3⟩:=aW.rec h (n:=4) (fun _=>rfl) hl;refine ⟨b,off,cap,rfl,h1,h2,fun k hk W hW=>?_⟩;exact ⟨(hW.cell (p:=⟨b,off+k*4,none⟩) h1).trans (h3 k hk 0 _ (by omega) rfl),(hW.cell (p:=⟨b,off+k*4+1,none⟩) h1).trans (h3 k hk 1 _ (by omega) rfl),(hW.cell (p:=⟨b,off+k*4+2,none⟩) h1).trans (h3 k hk 2 _ (by omega) rfl),(hW.cell (p:=⟨b,off+k*4+3,none⟩) h1).trans (h3 k hk 3 _ (by omega) rfl)⟩
def PK (x:Nat):Bool:=decide (97≤x∧x≤122)||decide (48≤x∧x≤57)||decide (x=45)
def rH (l:List UInt8):Bool:=l.all (fun c=>PK c.toNat)&&!l.isEmpty
def eU (l:List UInt8):Bool:=rH l&&decide (l.length≤20)&&decide (97≤(l.getD 0 0).toNat)&&decide ((l.getD 0 0).toNat≤122)
theorem Cc (x:Nat) (hx:x<256):(PK x=true∧((97≤x∧x≤122)∨(48≤x∧x≤57)∨x=45))∨(PK x=false∧(122<x∨(57<x∧x<97)∨(45<x∧x<48)∨x<45)):=by
 unfold PK;by_cases h1:97≤x∧x≤122
 ·exact .inl ⟨by simp [h1],.inl h1⟩
 ·by_cases h2:48≤x∧x≤57
  ·exact .inl ⟨by simp [h2],.inr (.inl h2)⟩
  ·by_cases h3:x=45
   ·exact .inl ⟨by simp [h3],.inr (.inr h3)⟩
   ·exact .inr ⟨by simp [h1,h2,h3],by omega⟩
theorem Gz (s:List UInt8) (k:Nat) (h:k<s.length):(s.take (k+1)).all (fun c=>PK c.toNat)=((s.take k).all (fun c=>PK c.toNat)&&PK s[k].toNat):=by
 rw [List.take_succ_eq_append_getElem h,List.all_append];simp
theorem Aq (s:List UInt8) (k:Nat) (h:k<s.length) (hb:PK s[k].toNat=false):s.all (fun c=>PK c.toNat)=false:=by
 rw [List.all_eq_false];exact ⟨s[k],List.getElem_mem h,by simp [hb]⟩
theorem row_any (s:ByteArray) (w:World) (hs:s.size≤maxLen) :
  Calls Tryz.prog 106 #[.string s] w fun e w'=>e=.returned (.bool (rH s.data.toList))∧w=w':=by
 unfold maxLen at hs;go_enter Tryz.func106,Tryz.ntmps106;go_wp2
 go_loop [7] (fun i=>∃k:Nat,k≤s.size∧i=.int .i64 k∧Hid ((s.data.toList.take k).all (fun c=>PK c.toNat)=true)) (fun i=>s.size-(intOf i).toNat)
 case atStart=>exact ⟨0,Nat.zero_le _,rfl,ah (by simp)⟩
 case round=>
  obtain ⟨k,hk,rfl,hA⟩:=hrel;by_cases hlt:k<s.size
  ·have hkl:k<s.data.toList.length:=by simpa using hlt
   have hT:=ah (Gz s.data.toList k hkl);have Jl:=Aq s.data.toList k hkl;have hb:s[k].toNat<256:=s[k].toNat_lt;have he:s.data.toList[k]=s[k]:=rfl;rw [he] at hT Jl;have hcs:=Cc s[k].toNat hb;have R5:=ah Jl;clear Jl he;rcases hcs with ⟨h1,h2⟩ | ⟨h1,h2⟩
   ·have HO:=ah h1;clear h1;rcases h2 with h2 | h2 | h2
    ·have d:((s[k].toNat:Int)==45)=false:=by rw [beq_eq_false_iff_ne];omega
     obtain ⟨h3,h4⟩:=h2;go_wp2
     go_round
     case rel=>exact ⟨k+1,by omega,by go_num,ah (by rw [hT.out,hA.out,HO.out];rfl)⟩
     case measure=>simp [intOf];omega
    ·have d:((s[k].toNat:Int)==45)=false:=by rw [beq_eq_false_iff_ne];omega
     obtain ⟨h3,h4⟩:=h2;go_wp2
     go_round
     case rel=>exact ⟨k+1,by omega,by go_num,ah (by rw [hT.out,hA.out,HO.out];rfl)⟩
     case measure=>simp [intOf];omega
    ·have d:((s[k].toNat:Int)==45)=true:=by rw [beq_iff_eq];omega
     have h3:s[k].toNat≤45:=by omega
     clear h2;go_wp2
     go_round
     case rel=>exact ⟨k+1,by omega,by go_num,ah (by rw [hT.out,hA.out,HO.out];rfl)⟩
     case measure=>simp [intOf];omega
   ·have HO:=ah (show rH s.data.toList=false by unfold rH;rw [R5.out h1];rfl);clear h1 R5;have d:((s[k].toNat:Int)==45)=false:=by rw [beq_eq_false_iff_ne];omega
    rcases h2 with h2 | h2 | h2 | h2
    ·have d2:decide ((s[k].toNat:Int)≤122)=false:=by simp;omega
     have d3:decide ((s[k].toNat:Int)≤57)=false:=by simp;omega
     go_wp2
     go_ret;exact ⟨by rw [HO.out];rfl,rfl⟩
    ·obtain ⟨h3,h4⟩:=h2;have d3:decide ((s[k].toNat:Int)≤57)=false:=by simp;omega
     go_wp2
     go_ret;exact ⟨by rw [HO.out];rfl,rfl⟩
    ·obtain ⟨h3,h4⟩:=h2;go_wp2
     go_ret;exact ⟨by rw [HO.out];rfl,rfl⟩
    ·go_wp2
     go_ret;exact ⟨by rw [HO.out];rfl,rfl⟩
  ·have hkk:k=s.size:=by omega
   have HR:=ah (show rH s.data.toList=!s.data.toList.isEmpty by
    have h2:=hA.out;rw [List.take_of_length_le (by simp;omega)] at h2;unfold rH;rw [h2];rfl)
   clear hkk;go_wp2
   go_ret;exact ⟨by rw [HR.out,←ByteArray.toList_eq];rfl,rfl⟩
theorem Jc (s:ByteArray) (w:World) (hs:s.size≤maxLen) :
  Calls Tryz.prog 113 #[.string s] w fun e w'=>e=.returned (.bool (rH s.data.toList))∧w=w':=by
 unfold maxLen at hs;go_enter Tryz.func113,Tryz.ntmps113;go_wp2
 go_loop [7] (fun i=>∃k:Nat,k≤s.size∧i=.int .i64 k∧Hid ((s.data.toList.take k).all (fun c=>PK c.toNat)=true)) (fun i=>s.size-(intOf i).toNat)
 case atStart=>exact ⟨0,Nat.zero_le _,rfl,ah (by simp)⟩
 case round=>
  obtain ⟨k,hk,rfl,hA⟩:=hrel;by_cases hlt:k<s.size
  ·have hkl:k<s.data.toList.length:=by simpa using hlt
   have hT:=ah (Gz s.data.toList k hkl);have Jl:=Aq s.data.toList k hkl;have hb:s[k].toNat<256:=s[k].toNat_lt;have he:s.data.toList[k]=s[k]:=rfl;rw [he] at hT Jl;have hcs:=Cc s[k].toNat hb;have R5:=ah Jl;clear Jl he;rcases hcs with ⟨h1,h2⟩ | ⟨h1,h2⟩
   ·have HO:=ah h1;clear h1;rcases h2 with h2 | h2 | h2
    ·have d:((s[k].toNat:Int) !=45)=true:=by rw [bne_iff_ne];omega
     obtain ⟨h3,h4⟩:=h2;go_wp2
     go_round
     case rel=>exact ⟨k+1,by omega,by go_num,ah (by rw [hT.out,hA.out,HO.out];rfl)⟩
     case measure=>simp [intOf];omega
    ·have d:((s[k].toNat:Int) !=45)=true:=by rw [bne_iff_ne];omega
     obtain ⟨h3,h4⟩:=h2;go_wp2
     go_round
     case rel=>exact ⟨k+1,by omega,by go_num,ah (by rw [hT.out,hA.out,HO.out];rfl)⟩
     case measure=>simp [intOf];omega
    ·have d:((s[k].toNat:Int) !=45)=false:=by rw [bne_eq_false_iff_eq];omega
     have h3:s[k].toNat≤45:=by omega
     clear h2;go_wp2
     go_round
     case rel=>exact ⟨k+1,by omega,by go_num,ah (by rw [hT.out,hA.out,HO.out];rfl)⟩
     case measure=>simp [intOf];omega
   ·have HO:=ah (show rH s.data.toList=false by unfold rH;rw [R5.out h1];rfl);clear h1 R5;have d:((s[k].toNat:Int) !=45)=true:=by rw [bne_iff_ne];omega
    rcases h2 with h2 | h2 | h2 | h2
    ·have d2:decide ((s[k].toNat:Int)≤122)=false:=by simp;omega
     have d3:decide ((s[k].toNat:Int)≤57)=false:=by simp;omega
     go_wp2
     all_goals first
      | (exfalso;omega)
      | (go_ret;exact ⟨by rw [HO.out];rfl,rfl⟩)
    ·obtain ⟨h3,h4⟩:=h2;have d3:decide ((s[k].toNat:Int)≤57)=false:=by simp;omega
     go_wp2
     all_goals first
      | (exfalso;omega)
      | (go_ret;exact ⟨by rw [HO.out];rfl,rfl⟩)
    ·obtain ⟨h3,h4⟩:=h2;go_wp2
     all_goals first
      | (exfalso;omega)
      | (go_ret;exact ⟨by rw [HO.out];rfl,rfl⟩)
    ·go_wp2
     all_goals first
      | (exfalso;omega)
      | (go_ret;exact ⟨by rw [HO.out];rfl,rfl⟩)
  ·have hkk:k=s.size:=by omega
   have HR:=ah (show rH s.data.toList=!s.data.toList.isEmpty by
    have h2:=hA.out;rw [List.take_of_length_le (by simp;omega)] at h2;unfold rH;rw [h2];rfl)
   clear hkk;go_wp2
   go_ret;exact ⟨by rw [HR.out,←ByteArray.toList_eq];rfl,rfl⟩
theorem dX (s:ByteArray) (w:World) (hs:s.size≤maxLen) :
  Calls Tryz.prog 92 #[.string s] w fun e w'=>e=.returned (.bool (eU s.data.toList))∧w=w':=by
 have RW:=ah (row_any s w hs);have hz:s.data.toList.length=s.size:=by simp
 unfold maxLen at hs;by_cases hr:rH s.data.toList=true
 ·rw [hr] at RW
  have hne:s.data.toList≠[]:=by
   intro h;rw [h] at hr;simp [rH] at hr
  have h0:0<s.size:=by have:=List.length_pos_iff.2 hne;omega
  have he:(s.data.toList.getD 0 0)=s[0]:=by
   rw [List.getD_eq_getElem?_getD,List.getElem?_eq_getElem (by omega)];rfl
  have HN:=ah (show eU s.data.toList=(decide (s.size≤20)&&decide (97≤s[0].toNat)&&decide (s[0].toNat≤122)) by unfold eU;rw [hr,he,hz];rfl);clear hr hne he hz;have hb:s[0].toNat<256:=s[0].toNat_lt;generalize hx:s[0].toNat=x at *;by_cases h20:s.size≤20
  ·by_cases h97:97≤x
   ·have d1:decide ((s.size:Int)≤20)=true:=by simp;omega
    have d2:decide ((97:Int)≤(x:Int))=true:=by simp;omega
    have uU:=ah (show eU s.data.toList=decide ((x:Int)≤122) by
     rw [HN.out,decide_eq_true h20,decide_eq_true h97];simp
     omega)
    have HXX:=ah hx;go_enter Tryz.func92,Tryz.ntmps92;go_wp2_with fail;refine RW.out.mono ?_;rintro e w' ⟨rfl,rfl⟩;go_wp2
    go_ret;exact ⟨by rw [uU.out];rfl,rfl⟩
   ·have d1:decide ((s.size:Int)≤20)=true:=by simp;omega
    have d2:decide ((97:Int)≤(x:Int))=false:=by simp;omega
    have uU:=ah (show eU s.data.toList=false by rw [HN.out,decide_eq_false h97];simp);clear h97;go_enter Tryz.func92,Tryz.ntmps92;go_wp2_with fail;refine RW.out.mono ?_;rintro e w' ⟨rfl,rfl⟩;go_wp2
    go_ret;exact ⟨by rw [uU.out];rfl,rfl⟩
  ·have d1:decide ((s.size:Int)≤20)=false:=by simp;omega
   have uU:=ah (show eU s.data.toList=false by rw [HN.out,decide_eq_false h20];simp);clear h20;go_enter Tryz.func92,Tryz.ntmps92;go_wp2_with fail;refine RW.out.mono ?_;rintro e w' ⟨rfl,rfl⟩;go_wp2
   go_ret;exact ⟨by rw [uU.out];rfl,rfl⟩
 ·have hr':rH s.data.toList=false:=by simpa using hr
  rw [hr'] at RW;have HN:=ah (show eU s.data.toList=false by unfold eU;rw [hr'];rfl);clear hr hr';go_enter Tryz.func92,Tryz.ntmps92;go_wp2_with fail;refine RW.out.mono ?_;rintro e w' ⟨rfl,rfl⟩;go_wp2
  go_ret;exact ⟨by rw [HN.out];rfl,rfl⟩
theorem dB (s:ByteArray) (w:World) (hs:s.size≤maxLen) :
  Calls Tryz.prog 104 #[.string s] w fun e w'=>e=.returned (.bool (eU s.data.toList))∧w=w':=by
 have RW:=ah (Jc s w hs);have hz:s.data.toList.length=s.size:=by simp
 unfold maxLen at hs;by_cases hr:rH s.data.toList=true
 ·rw [hr] at RW
  have hne:s.data.toList≠[]:=by
   intro h;rw [h] at hr;simp [rH] at hr
  have h0:0<s.size:=by have:=List.length_pos_iff.2 hne;omega
  have he:(s.data.toList.getD 0 0)=s[0]:=by
   rw [List.getD_eq_getElem?_getD,List.getElem?_eq_getElem (by omega)];rfl
  have HN:=ah (show eU s.data.toList=(decide (s.size≤20)&&decide (97≤s[0].toNat)&&decide (s[0].toNat≤122)) by unfold eU;rw [hr,he,hz];rfl);clear hr hne he hz;have hb:s[0].toNat<256:=s[0].toNat_lt;generalize hx:s[0].toNat=x at *;by_cases h20:s.size≤20
  ·by_cases h97:97≤x
   ·have d1:decide ((s.size:Int)≤20)=true:=by simp;omega
    have d2:decide ((97:Int)≤(x:Int))=true:=by simp;omega
    have uU:=ah (show eU s.data.toList=decide ((x:Int)≤122) by
     rw [HN.out,decide_eq_true h20,decide_eq_true h97];simp
     omega)
    have HXX:=ah hx;go_enter Tryz.func104,Tryz.ntmps104;go_wp2_with fail;refine RW.out.mono ?_;rintro e w' ⟨rfl,rfl⟩;go_wp2
    go_ret;exact ⟨by rw [uU.out];rfl,rfl⟩
   ·have d1:decide ((s.size:Int)≤20)=true:=by simp;omega
    have d2:decide ((97:Int)≤(x:Int))=false:=by simp;omega
    have uU:=ah (show eU s.data.toList=false by rw [HN.out,decide_eq_false h97];simp);clear h97;go_enter Tryz.func104,Tryz.ntmps104;go_wp2_with fail;refine RW.out.mono ?_;rintro e w' ⟨rfl,rfl⟩;go_wp2
    go_ret;exact ⟨by rw [uU.out];rfl,rfl⟩
  ·have d1:decide ((s.size:Int)≤20)=false:=by simp;omega
   have uU:=ah (show eU s.data.toList=false by rw [HN.out,decide_eq_false h20];simp);clear h20;go_enter Tryz.func104,Tryz.ntmps104;go_wp2_with fail;refine RW.out.mono ?_;rintro e w' ⟨rfl,rfl⟩;go_wp2
   go_ret;exact ⟨by rw [uU.out];rfl,rfl⟩
 ·have hr':rH s.data.toList=false:=by simpa using hr
  rw [hr'] at RW;have HN:=ah (show eU s.data.toList=false by unfold eU;rw [hr'];rfl);clear hr hr';go_enter Tryz.func104,Tryz.ntmps104;go_wp2_with fail;refine RW.out.mono ?_;rintro e w' ⟨rfl,rfl⟩;go_wp2
  go_ret;exact ⟨by rw [HN.out];rfl,rfl⟩
end Go.Proofs.YtopmdeefcjdadaaGreat
