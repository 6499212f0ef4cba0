import Derived.Test.YtopmdeefcjdadaaGreatT41M00
import Derived.Test.YtopmdeefcjdadaaGreatT41M16
import Derived.StillTail
set_option linter.unusedVariables false
set_option linter.unusedSimpArgs false
set_option maxRecDepth 100000
set_option maxHeartbeats 32000000
namespace Go.Proofs.YtopmdeefcjdadaaGreat
open Go.RowKit
section
variable {P:Program} {Q:Exit→Act→World→Prop}
def dagN (ops:Array Oper) (n:Nat):Bool:=(List.range n).all fun j=>((ops[j]?).map fun o=>o.after.toList.all fun e=>decide (e.on<j)).getD false
def LJ (ops:Array Oper) (n:Nat):Bool:=((ops.toList.take n).all fun o=>o.guard.isNone&&o.dst.isSome)&&decide ((ops.toList.take n).map (·.dst)).Nodup
def I9 (l:List Oper) (n:Nat):Bool:=decide (n=l.length)||(Region.sinkB .any l.toArray n&&Region.chainB .any l.toArray n)
def vR (n s:Nat):Array Bool:=(List.replicate n true++List.replicate (s-n) false).toArray
theorem rZ {ops:Array Oper} {n:Nat} (h:dagN ops n=true) {j:Nat} {o:Oper} (hj:j<n) (ho:ops[j]?=some o):∀e∈o.after,e.on<j:=by
 unfold dagN at h;rw [List.all_eq_true] at h;have h1:=h j (List.mem_range.2 hj);rw [ho] at h1;simp only [Option.map_some,Option.getD_some,List.all_eq_true,decide_eq_true_eq] at h1;intro e he;exact h1 e (by simpa using he)
theorem Jv {ops:Array Oper} {n:Nat} (h:LJ ops n=true) {j:Nat} {o:Oper} (hj:j<n) (ho:ops[j]?=some o):o.guard=none∧∃d,o.dst=some d:=by
 unfold LJ at h;rw [Bool.and_eq_true,List.all_eq_true] at h;obtain ⟨hjs,e⟩:=Array.getElem?_eq_some_iff.1 ho
 have h1:=h.1 o (by
  refine List.mem_take_iff_getElem.2 ⟨j,by simp;omega,?_⟩;rw [←e];simp)
 rw [Bool.and_eq_true] at h1;exact ⟨Option.isNone_iff_eq_none.1 h1.1,Option.isSome_iff_exists.1 h1.2⟩
theorem EX {ops:Array Oper} {n:Nat} (h:LJ ops n=true) {i j:Nat} {o p:Oper} (hi:i<n) (hj:j<n) (ho:ops[i]?=some o) (hp:ops[j]?=some p) (hd:o.dst=p.dst):i=j:=by
 unfold LJ at h;rw [Bool.and_eq_true] at h;have hn:=of_decide_eq_true h.2;obtain ⟨his,ei⟩:=Array.getElem?_eq_some_iff.1 ho;obtain ⟨hjs,ej⟩:=Array.getElem?_eq_some_iff.1 hp;have hi':i<((ops.toList.take n).map (·.dst)).length:=by simp;omega
 have hj':j<((ops.toList.take n).map (·.dst)).length:=by simp;omega
 refine (List.getElem_inj (h₀:=hi') (h₁:=hj') hn).1 ?_;simp [ei,ej,hd]
def tQ (ops:Array Oper) (n:Nat) (a0 a:Act):Prop:=a.tmps.size=a0.tmps.size∧a.defers=a0.defers∧∀s,(∀(j:Nat) (o:Oper),j<n→ops[j]?=some o→o.dst≠some s)→a.tmps.getD s undef=a0.tmps.getD s undef
def nA (l:Array Bool) (n:Nat):Nat:=(l.toList.take n).countP (fun b=>!b)
theorem uY (l:Array Bool) (n i:Nat) (hin:i<n) (h:l.getD i true=false):nA (l.setIfInBounds i true) n+1=nA l n:=by
 obtain ⟨hi,hf⟩:=Ic h;unfold nA;rw [Array.toList_setIfInBounds,List.take_set];have hl:i<(l.toList.take n).length:=by simp;omega
 rw [List.countP_set hl];have h1:(l.toList.take n)[i]=false:=by simpa using hf
 have h2:0<(l.toList.take n).countP (fun b=>!b):=List.countP_pos_iff.2 ⟨false,by rw [←h1];exact List.getElem_mem _,rfl⟩;rw [h1];simp only [Bool.not_false,Bool.not_true,if_true,Bool.false_eq_true,if_false];omega
theorem oK (l:Array Bool) (n:Nat) (h:nA l n=0) (i:Nat) (hi:i<n):l.getD i true=true:=by
 by_cases hf:l.getD i true=false
 ·have:=uY l n i hi hf;omega
 ·simpa using hf
theorem aV (hm:P.follows .mixedOrders=true) {id:Nat} {a0:Act} {w0:World} {l:List Oper} (n:Nat) (hn:n≤l.length) (hdag:dagN l.toArray n=true) (hdst:LJ l.toArray n=true)
  (zk:I9 l n=true) (hseq:Region.seqB .any l.toArray (l.length-n) n (vR n l.length)=true)
  (φ:Nat→Value→World→Prop) (W:World→Prop) (G:World→World→Prop)
  (hW0:W w0.drew)
  (hmono:∀j v w w',φ j v w→G w w'→φ j v w')
  (hin:∀(j:Nat) (o:Oper) d,j<n→l.toArray[j]?=some o→o.dst=some d→d<a0.tmps.size)
  (hop:∀(i:Nat) (o:Oper) (a:Act) (w:World),i<n→l.toArray[i]?=some o→tQ l.toArray n a0 a→W w→
   (∀e∈o.after,Region.binds .any e=true→∀(p:Oper) d,l.toArray[e.on]?=some p→p.dst=some d→φ e.on (a.tmps.getD d undef) w)→
   o.wp P a w (fun a' w'=>∃v,a'=a.put o.dst v∧φ i v w'∧W w'∧G w w') Q)
  (hfin:∀a w,tQ l.toArray n a0 a→W w→(∀(j:Nat) (o:Oper) d,j<n→l.toArray[j]?=some o→o.dst=some d→φ j (a.tmps.getD d undef) w)→wpList P l.toArray Q (l.drop n) a w) :
  (Code.region id l.toArray true).wp P Q a0 w0:=by
 refine wp_region_any hm ?_
 have main:∀(m:Nat) (ls:Array Bool) (a:Act) (w:World),HeadInv .any l.toArray n ls→ls.size=l.length→(∀k,n≤k→k<l.length→ls.getD k true=false)→tQ l.toArray n a0 a→W w→
   (∀(j:Nat) (o:Oper) d,j<n→l.toArray[j]?=some o→ls.getD j false=true→o.dst=some d→φ j (a.tmps.getD d undef) w)→nA ls n=m→wpAny P .any l.toArray Q (m+(l.length-n)) ls a w:=by
  intro m
  induction m with
  | zero=>
   intro ls a w inv hl ht hs hw hφ hz
   have e:ls=vR n l.length:=by
    apply Array.ext';unfold vR;apply List.ext_getElem
    ·simp [hl];omega
    ·intro i h1 h2;have hi':i<ls.size:=by simpa using h1
     by_cases hi:i<n
     ·rw [List.getElem_append_left (by simpa using hi),List.getElem_replicate];have:=oK ls n hz i hi;simpa [Array.getD,hi'] using this
     ·rw [List.getElem_append_right (by simp;omega),List.getElem_replicate];have:=ht i (by omega) (by omega);simpa [Array.getD,hi'] using this
   rw [Nat.zero_add];have hdl:(l.drop n).length=l.length-n:=by simp
   have:=wpAny_of_seq (md:=.any) (ops:=l.toArray) (P:=P) (Q':=Q) (l.drop n) n ls a w (fun j=>by simp [List.getElem?_drop]) (by rw [hdl,e];exact hseq) (hfin a w hs hw fun j o d hj ho hd=>hφ j o d hj ho (by
    have h1:=oK ls n hz j hj;have h3:j<ls.size:=by omega
    simpa [Array.getD,h3] using h1) hd)
   rwa [hdl] at this
  | succ m ih=>
   intro ls a w inv hl ht hs hw hφ hz;rw [show m+1+(l.length-n)=(m+(l.length-n))+1 by omega]
   have hun:∃i,i<n∧ls.getD i true=false:=by
    by_cases c:∃i,i<n∧ls.getD i true=false
    ·exact c
    ·exfalso
     have h0:nA ls n=0:=by
      unfold nA;rw [List.countP_eq_zero];intro b hb;obtain ⟨i,hi,rfl⟩:=List.mem_take_iff_getElem.1 hb;have hin':i<n:=by omega
      have his:i<ls.size:=by simp at hi;omega
      have:¬ls.getD i true=false:=fun h=>c ⟨i,hin',h⟩;simpa [Array.getD,his] using this
     omega
   refine ⟨fun hr=>?_,fun i hi=>?_⟩
   ·exfalso
    have key:∀k j,j≤k→j<n→ls.getD j true=true:=by
     intro k
     induction k with
     | zero=>
      intro j hj hjn;by_cases hf:ls.getD j true=false
      ·have hjs:j<l.toArray.size:=by simp;omega
       have:j∈Region.ready .any l.toArray ls:=mem_ready.2 ⟨hf,l.toArray[j],Array.getElem?_eq_getElem hjs,fun e he _=>by
        have:=rZ hdag hjn (Array.getElem?_eq_getElem hjs) e he;omega⟩
       rw [hr] at this;cases this
      ·simpa using hf
     | succ k ihk=>
      intro j hj hjn;by_cases hf:ls.getD j true=false
      ·have hjs:j<l.toArray.size:=by simp;omega
       have:j∈Region.ready .any l.toArray ls:=mem_ready.2 ⟨hf,l.toArray[j],Array.getElem?_eq_getElem hjs,fun e he _=>by
        have h1:=rZ hdag hjn (Array.getElem?_eq_getElem hjs) e he;have h2:=ihk e.on (by omega) (by omega);have h3:e.on<ls.size:=by omega
        simpa [Array.getD,h3] using h2⟩
       rw [hr] at this;cases this
      ·simpa using hf
    obtain ⟨i,hi,hf⟩:=hun;rw [key i i (Nat.le_refl _) hi] at hf;cases hf
   ·obtain ⟨hnot,o,ho,hafter⟩:=mem_ready.1 hi
    have hin':i<n:=by
     rcases Nat.lt_or_ge i n with h | h
     ·exact h
     ·exfalso;obtain ⟨j,hj,hf⟩:=hun;have his:i<l.length:=by have:=(Array.getElem?_eq_some_iff.1 ho).1;simpa using this
      unfold I9 at zk;rw [Bool.or_eq_true,decide_eq_true_eq,Bool.and_eq_true] at zk;rcases zk with h1 | ⟨h1,h2⟩
      ·omega
      ·exact tail_waits h1 h2 (by simp;omega) inv _ j rfl hj hf i h hi
    obtain ⟨hg,d,hd⟩:=Jv hdst hin' ho;unfold wpOp;simp only [ho];rw [if_pos (by simp [Region.wanted,hg])];refine .inl (Oper.wp_mono ?_ (hop i o a w hin' ho hs hw fun e he hb p d' hp hd'=>hφ e.on p d' (by have:=rZ hdag hin' ho e he;omega) hp (hafter e he hb) hd'));rintro a' w' ⟨v,rfl,hv,hw',hG⟩;have hput:a.put o.dst v={ a with tmps:=a.tmps.setIfInBounds d v }:=by unfold Act.put;rw [hd]
    rw [hput];refine ih _ _ _ (inv.set hi hin') (by simpa using hl) (fun k hk hkl=>?_) ⟨by simpa using hs.1,hs.2.1,fun s hns=>?_⟩ hw' (fun j p d' hjn hp hlj hd'=>?_) (by have:=uY ls n i hin' hnot;omega)
    ·have hne:i≠k:=by omega
     have:=ht k hk hkl;simpa [Array.getD_eq_getD_getElem?,Array.getElem?_setIfInBounds_ne hne] using this
    ·have hne:d≠s:=by rintro rfl;exact hns i o hin' ho hd
     rw [←hs.2.2 s hns];simp [Array.getD_eq_getD_getElem?,Array.getElem?_setIfInBounds_ne hne]
    ·by_cases hij:j=i
     ·subst hij;rw [ho] at hp;cases hp;rw [hd] at hd';cases hd';have hsz:d<a.tmps.size:=by rw [hs.1];exact hin _ _ _ hin' ho hd
      have:(a.tmps.setIfInBounds d v).getD d undef=v:=by simp [Array.getD_eq_getD_getElem?,hsz]
      rw [this];exact hv
     ·have hne:d≠d':=by
       rintro rfl;exact hij (EX hdst hjn hin' hp ho (by rw [hd,hd']))
      have:(a.tmps.setIfInBounds d v).getD d' undef=a.tmps.getD d' undef:=by simp [Array.getD_eq_getD_getElem?,Array.getElem?_setIfInBounds_ne hne]
      rw [this];refine hmono _ _ _ _ (hφ j p d' hjn hp ?_ hd') hG;have hni:i≠j:=fun e=>hij e.symm;rw [←hlj];simp [Array.getD_eq_getD_getElem?,Array.getElem?_setIfInBounds_ne hni]
 have h0:nA (Array.replicate l.length false) n=n:=by
  unfold nA;rw [Array.toList_replicate,List.take_replicate,List.countP_replicate];simp
  omega
 have:=main n (Array.replicate l.length false) a0 w0.drew ⟨by simp,fun j oj _ hl=>(by
  exfalso;by_cases hjs:j<l.length
  ·simp [Array.getD,hjs] at hl
  ·simp [Array.getD,hjs] at hl),fun t _ ht=>(by simp at ht;simp [Array.getD,ht])⟩ (by simp) (fun k hk hkl=>by simp [Array.getD,hkl]) ⟨rfl,rfl,fun _ _=>rfl⟩ hW0 (fun j o d hj ho hlj _=>by
  exfalso;by_cases hjs:j<l.length
  ·simp [Array.getD,hjs] at hlj
  ·simp [Array.getD,hjs] at hlj) h0
 rw [show n+(l.length-n)=l.toArray.size by simp;omega] at this;simpa using this
end
theorem au {P:Program} {o:Oper} {a:Act} {w w':World} {K:Act→World→Prop} {Q:Exit→Act→World→Prop} {v:Value} (h:(execOp a.eval o).run P w=.ok (.value v) w') (hK:K (a.put o.dst v) w'):o.wp P a w K Q:=by
 unfold Oper.wp;rw [h];exact hK
theorem aF {P:Program} {o:Oper} {a:Act} {w:World} {f:FuncId} {args:Array Value} {K:Act→World→Prop} {Q:Exit→Act→World→Prop} (h:(execOp a.eval o).run P w=.ok (.enter f args) w)
  (hc:Calls P f args w (fun e w'=>∃v,e=.returned v∧K (a.put o.dst v) w')):o.wp P a w K Q:=by
 unfold Oper.wp;rw [h];exact hc.mono fun e w'' ⟨v,he,hk⟩=>by subst he;exact hk
def insN (ops:Array Oper) (m n:Nat):Bool:=(ops.toList.take m).all fun o=>(o.dst.map fun d=>decide (d<n)).getD true
theorem bN {ops:Array Oper} {m n:Nat} (h:insN ops m n=true) {j:Nat} {o:Oper} {d:Nat} (hj:j<m) (ho:ops[j]?=some o) (hd:o.dst=some d):d<n:=by
 unfold insN at h;rw [List.all_eq_true] at h;obtain ⟨hjs,e⟩:=Array.getElem?_eq_some_iff.1 ho;have h1:=h o (List.mem_take_iff_getElem.2 ⟨j,by simp;omega,by rw [←e];simp⟩);rw [hd] at h1;simpa using h1
def notN (ops:Array Oper) (m s:Nat):Bool:=(ops.toList.take m).all fun o=>decide (o.dst≠some s)
theorem aL {ops:Array Oper} {m s:Nat} (h:notN ops m s=true) (j:Nat) (o:Oper) (hj:j<m) (ho:ops[j]?=some o):o.dst≠some s:=by
 unfold notN at h;rw [List.all_eq_true] at h;obtain ⟨hjs,e⟩:=Array.getElem?_eq_some_iff.1 ho;simpa using h o (List.mem_take_iff_getElem.2 ⟨j,by simp;omega,by rw [←e];simp⟩)
def eT (B:Nat) (v x:Value) (w:World):Prop:=∃b,v=.slice (some ⟨b,0,none⟩) 1 1∧B≤b∧b<w.heap.size∧w.cell? ⟨b,0,none⟩=some x
def Aj (B:Nat) (v x y:Value) (w:World):Prop:=∃b,v=.slice (some ⟨b,0,none⟩) 2 2∧B≤b∧b<w.heap.size∧w.cell? ⟨b,0,none⟩=some x∧w.cell? ⟨b,1,none⟩=some y
def fu (B:Nat) (T:TypeId) (cs:Array Value) (v:Value) (w:World):Prop:=∃b,v=.pointer (some ⟨b,0,none⟩)∧B≤b∧w.heap[b]?=some (.cells cs T)
theorem eT.up {B:Nat} {v x:Value} {w w':World} (h:eT B v x w) (g:Below w.heap.size w w'):eT B v x w':=by
 obtain ⟨b,e,h1,h2,h3⟩:=h;exact ⟨b,e,h1,Nat.lt_of_lt_of_le h2 g.size,(g.cell (p:=⟨b,0,none⟩) h2).trans h3⟩
theorem Aj.up {B:Nat} {v x y:Value} {w w':World} (h:Aj B v x y w) (g:Below w.heap.size w w'):Aj B v x y w':=by
 obtain ⟨b,e,h1,h2,h3,h4⟩:=h;exact ⟨b,e,h1,Nat.lt_of_lt_of_le h2 g.size,(g.cell (p:=⟨b,0,none⟩) h2).trans h3,(g.cell (p:=⟨b,1,none⟩) h2).trans h4⟩
theorem fu.up {B:Nat} {T:TypeId} {cs:Array Value} {v:Value} {w w':World} (h:fu B T cs v w) (g:Below w.heap.size w w'):fu B T cs v w':=by
 obtain ⟨b,e,h1,h2⟩:=h;exact ⟨b,e,h1,(g.block b (Array.getElem?_eq_some_iff.1 h2).1).trans h2⟩
theorem eT.new {B:Nat} {w:World} (x:Value) (T:TypeId) (hB:B≤w.heap.size):eT B (.slice (some ⟨w.heap.size,0,none⟩) 1 1) x (w.alloc (.cells #[x] T)):=⟨_,rfl,hB,by simp,by simp [go_sem]⟩
theorem Aj.new {B:Nat} {w:World} (x y:Value) (T:TypeId) (hB:B≤w.heap.size):Aj B (.slice (some ⟨w.heap.size,0,none⟩) 2 2) x y (w.alloc (.cells #[x,y] T)):=⟨_,rfl,hB,by simp,by simp [go_sem],by simp [go_sem]⟩
theorem fu.new {B:Nat} {w:World} (T:TypeId) (cs:Array Value) (hB:B≤w.heap.size):fu B T cs (.pointer (some ⟨w.heap.size,0,none⟩)) (w.alloc (.cells cs T)):=⟨_,rfl,hB,heap_alloc_new w _⟩
def PD (ops:Array Oper) (n:Nat) (ss:List Nat):Bool:=(ops.toList.take n).all fun o=>(o.dst.map fun d=>ss.contains d).getD true
def Qn (t:Array Value):List (Nat×Value)→Prop
 | []=>True
 | p::ds=>t.getD p.1 undef=p.2∧Qn t ds
def bZ (a:Act) (ds:List (Nat×Value)):Act:=ds.foldl (fun a p=>a.put (some p.1) p.2) a
theorem yJ:∀(ds:List (Nat×Value)) (a:Act),(bZ a ds).tmps.size=a.tmps.size∧(bZ a ds).defers=a.defers
 | [],a=>⟨rfl,rfl⟩
 | p::ds,a=>by
  have:=yJ ds (a.put (some p.1) p.2);unfold bZ at *;rw [List.foldl_cons];simpa [Act.put] using this
theorem vF:∀(ds:List (Nat×Value)) (a:Act) (s:Nat),(∀p∈ds,p.1≠s)→(bZ a ds).tmps.getD s undef=a.tmps.getD s undef
 | [],a,s,_=>rfl
 | p::ds,a,s,h=>by
  have h1:=vF ds (a.put (some p.1) p.2) s (fun q hq=>h q (by simp [hq]));unfold bZ at *;rw [List.foldl_cons,h1];have hne:=h p (by simp);simp [Act.put,Array.getD_eq_getD_getElem?,Array.getElem?_setIfInBounds_ne hne]
theorem En:∀(ds:List (Nat×Value)) (a:Act) (t:Array Value) (s:Nat),t.size=a.tmps.size→Qn t ds→(∃p∈ds,p.1=s)→(bZ a ds).tmps.getD s undef=t.getD s undef
 | [],a,t,s,_,_,h=>by obtain ⟨p,hp,_⟩:=h;cases hp
 | p::ds,a,t,s,hz,ha,h=>by
  obtain ⟨ha1,ha2⟩:=ha;by_cases c:∃q∈ds,q.1=s
  ·have h1:=En ds (a.put (some p.1) p.2) t s (by simpa [Act.put] using hz) ha2 c;unfold bZ at *;rw [List.foldl_cons,h1]
  ·have hps:p.1=s:=by
    obtain ⟨q,hq,e⟩:=h;rcases List.mem_cons.1 hq with rfl | hq
    ·exact e
    ·exact absurd ⟨q,hq,e⟩ c
   have h1:=vF ds (a.put (some p.1) p.2) s (fun q hq e=>c ⟨q,hq,e⟩);unfold bZ at *;rw [List.foldl_cons,h1,←hps,ha1];by_cases hlt:p.1<a.tmps.size
   ·simp [Act.put,Array.getD_eq_getD_getElem?,hlt]
   ·rw [←ha1];simp [Act.put,Array.getD_eq_getD_getElem?,hlt,hz]
theorem Ls {t u:Array Value} (hz:t.size=u.size) (h:∀s,t.getD s undef=u.getD s undef):t=u:=by
 apply Array.ext hz;intro i h1 h2;have:=h i;simpa [Array.getD,h1,h2] using this
theorem aZ {ops:Array Oper} {n:Nat} {a0 a:Act} (hs:tQ ops n a0 a) (ds:List (Nat×Value)) (ss:List Nat) (hss:ds.map (·.1)=ss) (hc:PD ops n ss=true) (hin:Qn a.tmps ds):a=bZ a0 ds:=by
 obtain ⟨h1,h2,h3⟩:=hs;obtain ⟨p1,p2⟩:=yJ ds a0
 have e:a.tmps=(bZ a0 ds).tmps:=by
  refine Ls (by rw [p1,h1]) fun s=>?_;by_cases c:∃p∈ds,p.1=s
  ·exact (En ds a0 a.tmps s h1 hin c).symm
  ·rw [vF ds a0 s fun p hp e=>c ⟨p,hp,e⟩];refine h3 s fun j o hj ho hd=>?_;unfold PD at hc;rw [List.all_eq_true] at hc;obtain ⟨hjs,ej⟩:=Array.getElem?_eq_some_iff.1 ho;have h4:=hc o (List.mem_take_iff_getElem.2 ⟨j,by simp;omega,by rw [←ej];simp⟩);rw [hd] at h4;simp only [Option.map_some,Option.getD_some] at h4;have h5:s∈ss:=by simpa using h4
   rw [←hss] at h5;obtain ⟨p,hp,e⟩:=List.mem_map.1 h5;exact c ⟨p,hp,e⟩
 cases a;cases hq:bZ a0 ds
 rw [hq] at e p2;simp only at e p2 h2;rw [e,h2,←p2]
end Go.Proofs.YtopmdeefcjdadaaGreat
