import Derived.Test.YtopmdeefcjdadaaGreatT42M00
import Derived.Test.YtopmdeefcjdadaaGreatT42M15
import Derived.StillTail
import Derived.Deep.DeepCutAuto
set_option linter.unusedVariables false
set_option linter.unusedSimpArgs false
set_option maxRecDepth 100000
set_option maxHeartbeats 32000000
namespace Go.Proofs.YtopmdeefcjdadaaGreat
open Go.RowKit
section
variable {P:Program} {Q:Exit→Act→World→Prop}
def dagN (ops:Array Oper) (n:Nat):Bool:=(List.range n).all fun j=>((ops[j]?).map fun o=>o.after.toList.all fun e=>decide (e.on<j)).getD false
def Np (ops:Array Oper) (n:Nat):Bool:=((ops.toList.take n).all fun o=>o.guard.isNone&&o.dst.isSome)&&decide ((ops.toList.take n).map (·.dst)).Nodup
def J9 (l:List Oper) (n:Nat):Bool:=decide (n=l.length)||(Region.sinkB .any l.toArray n&&Region.chainB .any l.toArray n)
def xC (n s:Nat):Array Bool:=(List.replicate n true++List.replicate (s-n) false).toArray
theorem tF {ops:Array Oper} {n:Nat} (h:dagN ops n=true) {j:Nat} {o:Oper} (hj:j<n) (ho:ops[j]?=some o):∀e∈o.after,e.on<j:=by
 unfold dagN at h;rw [List.all_eq_true] at h;have h1:=h j (List.mem_range.2 hj);rw [ho] at h1;simp only [Option.map_some,Option.getD_some,List.all_eq_true,decide_eq_true_eq] at h1;intro e he;exact h1 e (by simpa using he)
theorem KD {ops:Array Oper} {n:Nat} (h:Np ops n=true) {j:Nat} {o:Oper} (hj:j<n) (ho:ops[j]?=some o):o.guard=none∧∃d,o.dst=some d:=by
 unfold Np at h;rw [Bool.and_eq_true,List.all_eq_true] at h;obtain ⟨hjs,e⟩:=Array.getElem?_eq_some_iff.1 ho
 have h1:=h.1 o (by
  refine List.mem_take_iff_getElem.2 ⟨j,by simp;omega,?_⟩;rw [←e];simp)
 rw [Bool.and_eq_true] at h1;exact ⟨Option.isNone_iff_eq_none.1 h1.1,Option.isSome_iff_exists.1 h1.2⟩
theorem Gn {ops:Array Oper} {n:Nat} (h:Np ops n=true) {i j:Nat} {o p:Oper} (hi:i<n) (hj:j<n) (ho:ops[i]?=some o) (hp:ops[j]?=some p) (hd:o.dst=p.dst):i=j:=by
 unfold Np at h;rw [Bool.and_eq_true] at h;have hn:=of_decide_eq_true h.2;obtain ⟨his,ei⟩:=Array.getElem?_eq_some_iff.1 ho;obtain ⟨hjs,ej⟩:=Array.getElem?_eq_some_iff.1 hp;have hi':i<((ops.toList.take n).map (·.dst)).length:=by simp;omega
 have hj':j<((ops.toList.take n).map (·.dst)).length:=by simp;omega
 refine (List.getElem_inj (h₀:=hi') (h₁:=hj') hn).1 ?_;simp [ei,ej,hd]
def uN (ops:Array Oper) (n:Nat) (a0 a:Act):Prop:=a.tmps.size=a0.tmps.size∧a.defers=a0.defers∧∀s,(∀(j:Nat) (o:Oper),j<n→ops[j]?=some o→o.dst≠some s)→a.tmps.getD s undef=a0.tmps.getD s undef
def nV (l:Array Bool) (n:Nat):Nat:=(l.toList.take n).countP (fun b=>!b)
theorem vZ (l:Array Bool) (n i:Nat) (hin:i<n) (h:l.getD i true=false):nV (l.setIfInBounds i true) n+1=nV l n:=by
 obtain ⟨hi,hf⟩:=Jr h;unfold nV;rw [Array.toList_setIfInBounds,List.take_set];have hl:i<(l.toList.take n).length:=by simp;omega
 rw [List.countP_set hl];have h1:(l.toList.take n)[i]=false:=by simpa using hf
 have h2:0<(l.toList.take n).countP (fun b=>!b):=List.countP_pos_iff.2 ⟨false,by rw [←h1];exact List.getElem_mem _,rfl⟩;rw [h1];simp only [Bool.not_false,Bool.not_true,if_true,Bool.false_eq_true,if_false];omega
theorem pV (l:Array Bool) (n:Nat) (h:nV l n=0) (i:Nat) (hi:i<n):l.getD i true=true:=by
 by_cases hf:l.getD i true=false
 ·have:=vZ l n i hi hf;omega
 ·simpa using hf
theorem aX (hm:P.follows .mixedOrders=true) {id:Nat} {a0:Act} {w0:World} {l:List Oper} (n:Nat) (hn:n≤l.length) (hdag:dagN l.toArray n=true) (hdst:Np l.toArray n=true)
  (Ah:J9 l n=true) (hseq:Region.seqB .any l.toArray (l.length-n) n (xC n l.length)=true)
  (φ:Nat→Value→World→Prop) (W:World→Prop) (G:World→World→Prop)
  (hW0:W w0.drew)
  (hmono:∀j v w w',φ j v w→G w w'→φ j v w')
  (hin:∀(j:Nat) (o:Oper) d,j<n→l.toArray[j]?=some o→o.dst=some d→d<a0.tmps.size)
  (hop:∀(i:Nat) (o:Oper) (a:Act) (w:World),i<n→l.toArray[i]?=some o→uN l.toArray n a0 a→W w→
   (∀e∈o.after,Region.binds .any e=true→∀(p:Oper) d,l.toArray[e.on]?=some p→p.dst=some d→φ e.on (a.tmps.getD d undef) w)→
   o.wp P a w (fun a' w'=>∃v,a'=a.put o.dst v∧φ i v w'∧W w'∧G w w') Q)
  (hfin:∀a w,uN l.toArray n a0 a→W w→(∀(j:Nat) (o:Oper) d,j<n→l.toArray[j]?=some o→o.dst=some d→φ j (a.tmps.getD d undef) w)→wpList P l.toArray Q (l.drop n) a w) :
  (Code.region id l.toArray true).wp P Q a0 w0:=by
 refine wp_region_any hm ?_
 have main:∀(m:Nat) (ls:Array Bool) (a:Act) (w:World),HeadInv .any l.toArray n ls→ls.size=l.length→(∀k,n≤k→k<l.length→ls.getD k true=false)→uN l.toArray n a0 a→W w→
   (∀(j:Nat) (o:Oper) d,j<n→l.toArray[j]?=some o→ls.getD j false=true→o.dst=some d→φ j (a.tmps.getD d undef) w)→nV ls n=m→wpAny P .any l.toArray Q (m+(l.length-n)) ls a w:=by
  intro m
  induction m with
  | zero=>
   intro ls a w inv hl ht hs hw hφ hz
   have e:ls=xC n l.length:=by
    apply Array.ext';unfold xC;apply List.ext_getElem
    ·simp [hl];omega
    ·intro i h1 h2;have hi':i<ls.size:=by simpa using h1
     by_cases hi:i<n
     ·rw [List.getElem_append_left (by simpa using hi),List.getElem_replicate];have:=pV ls n hz i hi;simpa [Array.getD,hi'] using this
     ·rw [List.getElem_append_right (by simp;omega),List.getElem_replicate];have:=ht i (by omega) (by omega);simpa [Array.getD,hi'] using this
   rw [Nat.zero_add];have hdl:(l.drop n).length=l.length-n:=by simp
   have:=wpAny_of_seq (md:=.any) (ops:=l.toArray) (P:=P) (Q':=Q) (l.drop n) n ls a w (fun j=>by simp [List.getElem?_drop]) (by rw [hdl,e];exact hseq) (hfin a w hs hw fun j o d hj ho hd=>hφ j o d hj ho (by
    have h1:=pV ls n hz j hj;have h3:j<ls.size:=by omega
    simpa [Array.getD,h3] using h1) hd)
   rwa [hdl] at this
  | succ m ih=>
   intro ls a w inv hl ht hs hw hφ hz;rw [show m+1+(l.length-n)=(m+(l.length-n))+1 by omega]
   have hun:∃i,i<n∧ls.getD i true=false:=by
    by_cases c:∃i,i<n∧ls.getD i true=false
    ·exact c
    ·exfalso
     have h0:nV ls n=0:=by
      unfold nV;rw [List.countP_eq_zero];intro b hb;obtain ⟨i,hi,rfl⟩:=List.mem_take_iff_getElem.1 hb;have hin':i<n:=by omega
      have his:i<ls.size:=by simp at hi;omega
      have:¬ls.getD i true=false:=fun h=>c ⟨i,hin',h⟩;simpa [Array.getD,his] using this
     omega
   refine ⟨fun hr=>?_,fun i hi=>?_⟩
   ·exfalso
    have key:∀k j,j≤k→j<n→ls.getD j true=true:=by
     intro k
     induction k with
     | zero=>
      intro j hj hjn;by_cases hf:ls.getD j true=false
      ·have hjs:j<l.toArray.size:=by simp;omega
       have:j∈Region.ready .any l.toArray ls:=mem_ready.2 ⟨hf,l.toArray[j],Array.getElem?_eq_getElem hjs,fun e he _=>by
        have:=tF hdag hjn (Array.getElem?_eq_getElem hjs) e he;omega⟩
       rw [hr] at this;cases this
      ·simpa using hf
     | succ k ihk=>
      intro j hj hjn;by_cases hf:ls.getD j true=false
      ·have hjs:j<l.toArray.size:=by simp;omega
       have:j∈Region.ready .any l.toArray ls:=mem_ready.2 ⟨hf,l.toArray[j],Array.getElem?_eq_getElem hjs,fun e he _=>by
        have h1:=tF hdag hjn (Array.getElem?_eq_getElem hjs) e he;have h2:=ihk e.on (by omega) (by omega);have h3:e.on<ls.size:=by omega
        simpa [Array.getD,h3] using h2⟩
       rw [hr] at this;cases this
      ·simpa using hf
    obtain ⟨i,hi,hf⟩:=hun;rw [key i i (Nat.le_refl _) hi] at hf;cases hf
   ·obtain ⟨hnot,o,ho,hafter⟩:=mem_ready.1 hi
    have hin':i<n:=by
     rcases Nat.lt_or_ge i n with h | h
     ·exact h
     ·exfalso;obtain ⟨j,hj,hf⟩:=hun;have his:i<l.length:=by have:=(Array.getElem?_eq_some_iff.1 ho).1;simpa using this
      unfold J9 at Ah;rw [Bool.or_eq_true,decide_eq_true_eq,Bool.and_eq_true] at Ah;rcases Ah with h1 | ⟨h1,h2⟩
      ·omega
      ·exact tail_waits h1 h2 (by simp;omega) inv _ j rfl hj hf i h hi
    obtain ⟨hg,d,hd⟩:=KD hdst hin' ho;unfold wpOp;simp only [ho];rw [if_pos (by simp [Region.wanted,hg])];refine .inl (Oper.wp_mono ?_ (hop i o a w hin' ho hs hw fun e he hb p d' hp hd'=>hφ e.on p d' (by have:=tF hdag hin' ho e he;omega) hp (hafter e he hb) hd'));rintro a' w' ⟨v,rfl,hv,hw',hG⟩;have hput:a.put o.dst v={ a with tmps:=a.tmps.setIfInBounds d v }:=by unfold Act.put;rw [hd]
    rw [hput];refine ih _ _ _ (inv.set hi hin') (by simpa using hl) (fun k hk hkl=>?_) ⟨by simpa using hs.1,hs.2.1,fun s hns=>?_⟩ hw' (fun j p d' hjn hp hlj hd'=>?_) (by have:=vZ ls n i hin' hnot;omega)
    ·have hne:i≠k:=by omega
     have:=ht k hk hkl;simpa [Array.getD_eq_getD_getElem?,Array.getElem?_setIfInBounds_ne hne] using this
    ·have hne:d≠s:=by rintro rfl;exact hns i o hin' ho hd
     rw [←hs.2.2 s hns];simp [Array.getD_eq_getD_getElem?,Array.getElem?_setIfInBounds_ne hne]
    ·by_cases hij:j=i
     ·subst hij;rw [ho] at hp;cases hp;rw [hd] at hd';cases hd';have hsz:d<a.tmps.size:=by rw [hs.1];exact hin _ _ _ hin' ho hd
      have:(a.tmps.setIfInBounds d v).getD d undef=v:=by simp [Array.getD_eq_getD_getElem?,hsz]
      rw [this];exact hv
     ·have hne:d≠d':=by
       rintro rfl;exact hij (Gn hdst hjn hin' hp ho (by rw [hd,hd']))
      have:(a.tmps.setIfInBounds d v).getD d' undef=a.tmps.getD d' undef:=by simp [Array.getD_eq_getD_getElem?,Array.getElem?_setIfInBounds_ne hne]
      rw [this];refine hmono _ _ _ _ (hφ j p d' hjn hp ?_ hd') hG;have hni:i≠j:=fun e=>hij e.symm;rw [←hlj];simp [Array.getD_eq_getD_getElem?,Array.getElem?_setIfInBounds_ne hni]
 have h0:nV (Array.replicate l.length false) n=n:=by
  unfold nV;rw [Array.toList_replicate,List.take_replicate,List.countP_replicate];simp
  omega
 have:=main n (Array.replicate l.length false) a0 w0.drew ⟨by simp,fun j oj _ hl=>(by
  exfalso;by_cases hjs:j<l.length
  ·simp [Array.getD,hjs] at hl
  ·simp [Array.getD,hjs] at hl),fun t _ ht=>(by simp at ht;simp [Array.getD,ht])⟩ (by simp) (fun k hk hkl=>by simp [Array.getD,hkl]) ⟨rfl,rfl,fun _ _=>rfl⟩ hW0 (fun j o d hj ho hlj _=>by
  exfalso;by_cases hjs:j<l.length
  ·simp [Array.getD,hjs] at hlj
  ·simp [Array.getD,hjs] at hlj) h0
 rw [show n+(l.length-n)=l.toArray.size by simp;omega] at this;simpa using this
end
theorem au {P:Program} {o:Oper} {a:Act} {w w':World} {K:Act→World→Prop} {Q:Exit→Act→World→Prop} {v:Value} (h:(execOp a.eval o).run P w=.ok (.value v) w') (hK:K (a.put o.dst v) w'):o.wp P a w K Q:=by
 unfold Oper.wp;rw [h];exact hK
theorem aG {P:Program} {o:Oper} {a:Act} {w:World} {f:FuncId} {args:Array Value} {K:Act→World→Prop} {Q:Exit→Act→World→Prop} (h:(execOp a.eval o).run P w=.ok (.enter f args) w)
  (hc:Calls P f args w (fun e w'=>∃v,e=.returned v∧K (a.put o.dst v) w')):o.wp P a w K Q:=by
 unfold Oper.wp;rw [h];exact hc.mono fun e w'' ⟨v,he,hk⟩=>by subst he;exact hk
def insN (ops:Array Oper) (m n:Nat):Bool:=(ops.toList.take m).all fun o=>(o.dst.map fun d=>decide (d<n)).getD true
theorem bO {ops:Array Oper} {m n:Nat} (h:insN ops m n=true) {j:Nat} {o:Oper} {d:Nat} (hj:j<m) (ho:ops[j]?=some o) (hd:o.dst=some d):d<n:=by
 unfold insN at h;rw [List.all_eq_true] at h;obtain ⟨hjs,e⟩:=Array.getElem?_eq_some_iff.1 ho;have h1:=h o (List.mem_take_iff_getElem.2 ⟨j,by simp;omega,by rw [←e];simp⟩);rw [hd] at h1;simpa using h1
def notN (ops:Array Oper) (m s:Nat):Bool:=(ops.toList.take m).all fun o=>decide (o.dst≠some s)
theorem aM {ops:Array Oper} {m s:Nat} (h:notN ops m s=true) (j:Nat) (o:Oper) (hj:j<m) (ho:ops[j]?=some o):o.dst≠some s:=by
 unfold notN at h;rw [List.all_eq_true] at h;obtain ⟨hjs,e⟩:=Array.getElem?_eq_some_iff.1 ho;simpa using h o (List.mem_take_iff_getElem.2 ⟨j,by simp;omega,by rw [←e];simp⟩)
def fA (B:Nat) (v x:Value) (w:World):Prop:=∃b,v=.slice (some ⟨b,0,none⟩) 1 1∧B≤b∧b<w.heap.size∧w.cell? ⟨b,0,none⟩=some x
def Bq (B:Nat) (v x y:Value) (w:World):Prop:=∃b,v=.slice (some ⟨b,0,none⟩) 2 2∧B≤b∧b<w.heap.size∧w.cell? ⟨b,0,none⟩=some x∧w.cell? ⟨b,1,none⟩=some y
def fF (B:Nat) (T:TypeId) (cs:Array Value) (v:Value) (w:World):Prop:=∃b,v=.pointer (some ⟨b,0,none⟩)∧B≤b∧w.heap[b]?=some (.cells cs T)
theorem fA.up {B:Nat} {v x:Value} {w w':World} (h:fA B v x w) (g:Below w.heap.size w w'):fA B v x w':=by
 obtain ⟨b,e,h1,h2,h3⟩:=h;exact ⟨b,e,h1,Nat.lt_of_lt_of_le h2 g.size,(g.cell (p:=⟨b,0,none⟩) h2).trans h3⟩
theorem Bq.up {B:Nat} {v x y:Value} {w w':World} (h:Bq B v x y w) (g:Below w.heap.size w w'):Bq B v x y w':=by
 obtain ⟨b,e,h1,h2,h3,h4⟩:=h;exact ⟨b,e,h1,Nat.lt_of_lt_of_le h2 g.size,(g.cell (p:=⟨b,0,none⟩) h2).trans h3,(g.cell (p:=⟨b,1,none⟩) h2).trans h4⟩
theorem fF.up {B:Nat} {T:TypeId} {cs:Array Value} {v:Value} {w w':World} (h:fF B T cs v w) (g:Below w.heap.size w w'):fF B T cs v w':=by
 obtain ⟨b,e,h1,h2⟩:=h;exact ⟨b,e,h1,(g.block b (Array.getElem?_eq_some_iff.1 h2).1).trans h2⟩
theorem fA.new {B:Nat} {w:World} (x:Value) (T:TypeId) (hB:B≤w.heap.size):fA B (.slice (some ⟨w.heap.size,0,none⟩) 1 1) x (w.alloc (.cells #[x] T)):=⟨_,rfl,hB,by simp,by simp [go_sem]⟩
theorem Bq.new {B:Nat} {w:World} (x y:Value) (T:TypeId) (hB:B≤w.heap.size):Bq B (.slice (some ⟨w.heap.size,0,none⟩) 2 2) x y (w.alloc (.cells #[x,y] T)):=⟨_,rfl,hB,by simp,by simp [go_sem],by simp [go_sem]⟩
theorem fF.new {B:Nat} {w:World} (T:TypeId) (cs:Array Value) (hB:B≤w.heap.size):fF B T cs (.pointer (some ⟨w.heap.size,0,none⟩)) (w.alloc (.cells cs T)):=⟨_,rfl,hB,heap_alloc_new w _⟩
def Rp (ops:Array Oper) (n:Nat) (ss:List Nat):Bool:=(ops.toList.take n).all fun o=>(o.dst.map fun d=>ss.contains d).getD true
def R9 (t:Array Value):List (Nat×Value)→Prop
 | []=>True
 | p::ds=>t.getD p.1 undef=p.2∧R9 t ds
def cB (a:Act) (ds:List (Nat×Value)):Act:=ds.foldl (fun a p=>a.put (some p.1) p.2) a
theorem zO:∀(ds:List (Nat×Value)) (a:Act),(cB a ds).tmps.size=a.tmps.size∧(cB a ds).defers=a.defers
 | [],a=>⟨rfl,rfl⟩
 | p::ds,a=>by
  have:=zO ds (a.put (some p.1) p.2);unfold cB at *;rw [List.foldl_cons];simpa [Act.put] using this
theorem wT:∀(ds:List (Nat×Value)) (a:Act) (s:Nat),(∀p∈ds,p.1≠s)→(cB a ds).tmps.getD s undef=a.tmps.getD s undef
 | [],a,s,_=>rfl
 | p::ds,a,s,h=>by
  have h1:=wT ds (a.put (some p.1) p.2) s (fun q hq=>h q (by simp [hq]));unfold cB at *;rw [List.foldl_cons,h1];have hne:=h p (by simp);simp [Act.put,Array.getD_eq_getD_getElem?,Array.getElem?_setIfInBounds_ne hne]
theorem Fu:∀(ds:List (Nat×Value)) (a:Act) (t:Array Value) (s:Nat),t.size=a.tmps.size→R9 t ds→(∃p∈ds,p.1=s)→(cB a ds).tmps.getD s undef=t.getD s undef
 | [],a,t,s,_,_,h=>by obtain ⟨p,hp,_⟩:=h;cases hp
 | p::ds,a,t,s,hz,ha,h=>by
  obtain ⟨ha1,ha2⟩:=ha;by_cases c:∃q∈ds,q.1=s
  ·have h1:=Fu ds (a.put (some p.1) p.2) t s (by simpa [Act.put] using hz) ha2 c;unfold cB at *;rw [List.foldl_cons,h1]
  ·have hps:p.1=s:=by
    obtain ⟨q,hq,e⟩:=h;rcases List.mem_cons.1 hq with rfl | hq
    ·exact e
    ·exact absurd ⟨q,hq,e⟩ c
   have h1:=wT ds (a.put (some p.1) p.2) s (fun q hq e=>c ⟨q,hq,e⟩);unfold cB at *;rw [List.foldl_cons,h1,←hps,ha1];by_cases hlt:p.1<a.tmps.size
   ·simp [Act.put,Array.getD_eq_getD_getElem?,hlt]
   ·rw [←ha1];simp [Act.put,Array.getD_eq_getD_getElem?,hlt,hz]
theorem Ng {t u:Array Value} (hz:t.size=u.size) (h:∀s,t.getD s undef=u.getD s undef):t=u:=by
 apply Array.ext hz;intro i h1 h2;have:=h i;simpa [Array.getD,h1,h2] using this
theorem bf {ops:Array Oper} {n:Nat} {a0 a:Act} (hs:uN ops n a0 a) (ds:List (Nat×Value)) (ss:List Nat) (hss:ds.map (·.1)=ss) (hc:Rp ops n ss=true) (hin:R9 a.tmps ds):a=cB a0 ds:=by
 obtain ⟨h1,h2,h3⟩:=hs;obtain ⟨p1,p2⟩:=zO ds a0
 have e:a.tmps=(cB a0 ds).tmps:=by
  refine Ng (by rw [p1,h1]) fun s=>?_;by_cases c:∃p∈ds,p.1=s
  ·exact (Fu ds a0 a.tmps s h1 hin c).symm
  ·rw [wT ds a0 s fun p hp e=>c ⟨p,hp,e⟩];refine h3 s fun j o hj ho hd=>?_;unfold Rp at hc;rw [List.all_eq_true] at hc;obtain ⟨hjs,ej⟩:=Array.getElem?_eq_some_iff.1 ho;have h4:=hc o (List.mem_take_iff_getElem.2 ⟨j,by simp;omega,by rw [←ej];simp⟩);rw [hd] at h4;simp only [Option.map_some,Option.getD_some] at h4;have h5:s∈ss:=by simpa using h4
   rw [←hss] at h5;obtain ⟨p,hp,e⟩:=List.mem_map.1 h5;exact c ⟨p,hp,e⟩
 cases a;cases hq:cB a0 ds
 rw [hq] at e p2;simp only at e p2 h2;rw [e,h2,←p2]
def hw (i:Nat) (N:Int):Int:=(limbs 6 N).getD i 0
theorem mP (w:World):(zeroValue 88).run Tryz.prog w=.ok (.agg #[.int .u64 0,.int .u64 0,.int .u64 0,.int .u64 0,.int .u64 0,.int .u64 0]) w:=by kernel_rfl
theorem lg:(39402006196394479212279040100143613805079739270465446667948293404245721771497210611414266254884915640806627990306815:Int)<bE 6:=by decide +kernel
theorem xJ (n:Int) (h0:0≤n) (h1:n≤9223372036854775807) (w:World) :
  Calls Tryz.prog 64 #[.int .i64 n] w fun e w'=>e=.returned (.agg #[.int .u64 (hw 0 n),.int .u64 (hw 1 n),.int .u64 (hw 2 n),.int .u64 (hw 3 n),.int .u64 (hw 4 n),.int .u64 (hw 5 n)])∧Below w.heap.size w w':=hOf_any n h0 h1 w
theorem fJ (N k:Int) (b:Nat) (w:World) (h0:0≤N) (k0:0≤k) (k1:k≤9223372036854775807) (hN:N<bE 6) (hf:N*k<bE 6) (hb:b<w.heap.size) (hc:w.cell? ⟨b,0,none⟩=some (.int .i64 k)) :
  Calls Tryz.prog 65 #[.agg #[.int .u64 (hw 0 N),.int .u64 (hw 1 N),.int .u64 (hw 2 N),.int .u64 (hw 3 N),.int .u64 (hw 4 N),.int .u64 (hw 5 N)],.slice (some ⟨b,0,none⟩) 1 1] w fun e w'=>e=.returned (.agg #[.int .u64 (hw 0 (N*k)),.int .u64 (hw 1 (N*k)),.int .u64 (hw 2 (N*k)),.int .u64 (hw 3 (N*k)),.int .u64 (hw 4 (N*k)),.int .u64 (hw 5 (N*k))])∧Below w.heap.size w w':=by
 have h:=Aj N [k] b 0 1 w h0 (by intro x hx;simp at hx;subst hx;exact ⟨k0,k1⟩) (by
  intro j hj;have:j=0∨j=1:=by simp at hj;omega
  rcases this with rfl | rfl
  ·simpa [jH] using hN
  ·simpa [jH] using hf) hb (by
  intro i hi;have:i=0:=by simp at hi;omega
  subst this;exact hc) (by simp)
 rw [show jH [k]=k by simp [jH]] at h;exact h
theorem KJ (N k m:Int) (b:Nat) (w:World) (h0:0≤N) (k0:0≤k) (k1:k≤9223372036854775807) (m0:0≤m) (m1:m≤9223372036854775807) (hN:N<bE 6) (hf:N*k<bE 6) (hg:N*(k*m)<bE 6) (hb:b<w.heap.size) (hc:w.cell? ⟨b,0,none⟩=some (.int .i64 k)) (hd:w.cell? ⟨b,1,none⟩=some (.int .i64 m)) :
  Calls Tryz.prog 65 #[.agg #[.int .u64 (hw 0 N),.int .u64 (hw 1 N),.int .u64 (hw 2 N),.int .u64 (hw 3 N),.int .u64 (hw 4 N),.int .u64 (hw 5 N)],.slice (some ⟨b,0,none⟩) 2 2] w fun e w'=>e=.returned (.agg #[.int .u64 (hw 0 (N*(k*m))),.int .u64 (hw 1 (N*(k*m))),.int .u64 (hw 2 (N*(k*m))),.int .u64 (hw 3 (N*(k*m))),.int .u64 (hw 4 (N*(k*m))),.int .u64 (hw 5 (N*(k*m)))])∧Below w.heap.size w w':=by
 have h:=Aj N [k,m] b 0 2 w h0 (by intro x hx;simp at hx;rcases hx with rfl | rfl;exact ⟨k0,k1⟩;exact ⟨m0,m1⟩) (by
  intro j hj;have:j=0∨j=1∨j=2:=by simp at hj;omega
  rcases this with rfl | rfl | rfl
  ·simpa [jH] using hN
  ·simpa [jH] using hf
  ·simpa [jH] using hg) hb (by
  intro i hi;have:i=0∨i=1:=by simp at hi;omega
  rcases this with rfl | rfl
  ·exact hc
  ·exact hd) (by simp)
 rw [show jH [k,m]=k*m by simp [jH]] at h;exact h
theorem Ap (N M:Int) (hN:0≤N) (hM:0≤M) (hf:N+M<bE 6) (w:World) :
  Calls Tryz.prog 69 #[.agg #[.int .u64 (hw 0 N),.int .u64 (hw 1 N),.int .u64 (hw 2 N),.int .u64 (hw 3 N),.int .u64 (hw 4 N),.int .u64 (hw 5 N)],.agg #[.int .u64 (hw 0 M),.int .u64 (hw 1 M),.int .u64 (hw 2 M),.int .u64 (hw 3 M),.int .u64 (hw 4 M),.int .u64 (hw 5 M)]] w fun e w'=>e=.returned (.agg #[.int .u64 (hw 0 (N+M)),.int .u64 (hw 1 (N+M)),.int .u64 (hw 2 (N+M)),.int .u64 (hw 3 (N+M)),.int .u64 (hw 4 (N+M)),.int .u64 (hw 5 (N+M))])∧Below w.heap.size w w':=M4 N M w hN hM hf
theorem JD (N M:Int) (hN:N<bE 6) (hM:0≤M) (hf:M≤N) (w:World) :
  Calls Tryz.prog 73 #[.agg #[.int .u64 (hw 0 N),.int .u64 (hw 1 N),.int .u64 (hw 2 N),.int .u64 (hw 3 N),.int .u64 (hw 4 N),.int .u64 (hw 5 N)],.agg #[.int .u64 (hw 0 M),.int .u64 (hw 1 M),.int .u64 (hw 2 M),.int .u64 (hw 3 M),.int .u64 (hw 4 M),.int .u64 (hw 5 M)]] w fun e w'=>e=.returned (.agg #[.int .u64 (hw 0 (N-M)),.int .u64 (hw 1 (N-M)),.int .u64 (hw 2 (N-M)),.int .u64 (hw 3 (N-M)),.int .u64 (hw 4 (N-M)),.int .u64 (hw 5 (N-M))])∧Below w.heap.size w w':=Jj N M w hN hM hf
theorem NG (N M:Int) (hN:0≤N) (hN6:N<bE 6) (hM:0≤M) (hM6:M<bE 6) (hf:N*M<bE 6) (w:World) :
  Calls Tryz.prog 68 #[.agg #[.int .u64 (hw 0 N),.int .u64 (hw 1 N),.int .u64 (hw 2 N),.int .u64 (hw 3 N),.int .u64 (hw 4 N),.int .u64 (hw 5 N)],.agg #[.int .u64 (hw 0 M),.int .u64 (hw 1 M),.int .u64 (hw 2 M),.int .u64 (hw 3 M),.int .u64 (hw 4 M),.int .u64 (hw 5 M)]] w fun e w'=>e=.returned (.agg #[.int .u64 (hw 0 (N*M)),.int .u64 (hw 1 (N*M)),.int .u64 (hw 2 (N*M)),.int .u64 (hw 3 (N*M)),.int .u64 (hw 4 (N*M)),.int .u64 (hw 5 (N*M))])∧Below w.heap.size w w':=QM N M w hN hN6 hM hM6 hf
theorem KL (N M:Int) (h0:0≤N) (h1:N<bE 6) (h2:0≤M) (h3:M<bE 6) (w:World) :
  Calls Tryz.prog 72 #[.agg #[.int .u64 (hw 0 N),.int .u64 (hw 1 N),.int .u64 (hw 2 N),.int .u64 (hw 3 N),.int .u64 (hw 4 N),.int .u64 (hw 5 N)],.agg #[.int .u64 (hw 0 M),.int .u64 (hw 1 M),.int .u64 (hw 2 M),.int .u64 (hw 3 M),.int .u64 (hw 4 M),.int .u64 (hw 5 M)]] w fun e w'=>e=.returned (.bool (decide (N<M)))∧Below w.heap.size w w':=M5 N M w h0 h1 h2 h3
theorem lF (W:World) (b i:Nat) (v:Value):W.grownBy (W.setCell ⟨b,i,none⟩ v) (some b):=
 ⟨rfl,rfl,rfl,by simp,fun k _ hne=>heap_setCell_other W ⟨b,i,none⟩ k v (fun e=>hne (by simp [e]))⟩
theorem iw {a b c:World} {r:Option Nat} (h:a.grownBy b r) (g:b.grownBy c r):a.grownBy c r:=
 ⟨g.os.trans h.os,g.tape.trans h.tape,g.output.trans h.output,Nat.le_trans h.size g.size,fun k hk hne=>(g.block k (Nat.lt_of_lt_of_le hk h.size) hne).trans (h.block k hk hne)⟩
theorem aZ (w:World) {ops:Array Oper} {rest:List Oper} {o:Oper} {a:Act} {Q:Exit→Act→World→Prop} {x0 x1 x2 x3 x4 x5 c0 c1 c2 c3 c4 c5:Int}
  (hg:o.guard=none) (p x:Operand) (hop:o.op=Op.store 88 p x) (b:Nat) (hp:a.eval p=.pointer (some ⟨b,0,none⟩)) (hx:a.eval x=.agg #[.int .u64 x0,.int .u64 x1,.int .u64 x2,.int .u64 x3,.int .u64 x4,.int .u64 x5]) (hb:aH w b 88 #[.int .u64 c0,.int .u64 c1,.int .u64 c2,.int .u64 c3,.int .u64 c4,.int .u64 c5])
  (hK:∀w',aH w' b 88 #[.int .u64 x0,.int .u64 x1,.int .u64 x2,.int .u64 x3,.int .u64 x4,.int .u64 x5]→w.grownBy w' (some b)→wpList Tryz.prog ops Q rest (a.put o.dst undef) w'):wpList Tryz.prog ops Q (o::rest) a w:=by
 refine wpList_plain hg fun K hK'=>?_;have hT:=(((((hb.set 0 (.int .u64 x0)).set 1 (.int .u64 x1)).set 2 (.int .u64 x2)).set 3 (.int .u64 x3)).set 4 (.int .u64 x4)).set 5 (.int .u64 x5)
 have hG:w.grownBy ((((((w.setCell ⟨b,0,none⟩ (.int .u64 x0)).setCell ⟨b,1,none⟩ (.int .u64 x1)).setCell ⟨b,2,none⟩ (.int .u64 x2)).setCell ⟨b,3,none⟩ (.int .u64 x3)).setCell ⟨b,4,none⟩ (.int .u64 x4)).setCell ⟨b,5,none⟩ (.int .u64 x5)) (some b):=by
  exact iw (iw (iw (iw (iw (lF w b 0 _) (lF _ b 1 _)) (lF _ b 2 _)) (lF _ b 3 _)) (lF _ b 4 _)) (lF _ b 5 _)
 simp only [List.setIfInBounds_toArray,List.set_cons_succ,List.set_cons_zero] at hT;obtain ⟨w1,hw1⟩:∃w1:World,w1=((((((w.setCell ⟨b,0,none⟩ (.int .u64 x0)).setCell ⟨b,1,none⟩ (.int .u64 x1)).setCell ⟨b,2,none⟩ (.int .u64 x2)).setCell ⟨b,3,none⟩ (.int .u64 x3)).setCell ⟨b,4,none⟩ (.int .u64 x4)).setCell ⟨b,5,none⟩ (.int .u64 x5)):=⟨_,rfl⟩;rw [←hw1] at hT hG;have h:=hK' _ _ (hK w1 hT hG);rw [hw1] at h;have y0:=hb.cell (i:=0) rfl;have z0:=hb.frozen 0;have y1:=hb.cell (i:=1) rfl;have z1:=hb.frozen 1;have y2:=hb.cell (i:=2) rfl;have z2:=hb.frozen 2;have y3:=hb.cell (i:=3) rfl;have z3:=hb.frozen 3;have y4:=hb.cell (i:=4) rfl;have z4:=hb.frozen 4;have y5:=hb.cell (i:=5) rfl;have z5:=hb.frozen 5;clear hK hK' hT hG hw1 hb;unfold Oper.wp;simp only [execOp,hop,hp,hx];go_simp;exact h
theorem aH.fE {w w':World} {b g:Nat} {T:TypeId} {cs:Array Value} (h:aH w b T cs) (hg:w.grownBy w' (some g)) (hne:b≠g):aH w' b T cs:=(hg.block b h.lt (by intro e;injection e with e;exact hne e)).trans h
theorem aY {B:Nat} {a b c:World} {g:Nat} (h:Below B a b) (k:b.grownBy c (some g)) (hB:B≤b.heap.size) (hg:B≤g):Below B a c:=h.grown k hB (fun j hj=>by cases hj;exact hg)
def aU (n d:Int):Int:=if 2*n≤d then 2*n else 2*d-2*n
theorem rR {n d:Int} (h0:0≤n) (h1:n≤d):0≤aU n d∧aU n d≤d:=by
 unfold aU;split<;>omega
theorem Fy (n d k i:Int) (w:World) (h0:0≤n) (h1:n≤d) (h2:d≤1000000000000000000) :
  Calls Tryz.prog 132 #[.agg #[.int .i64 n,.int .i64 d,.int .i64 k,.int .i64 i]] w fun e w'=>e=.returned (.int .i64 (aU n d))∧Below w.heap.size w w':=by
 have a1:IntKind.i64.wrap (2*n)=2*n:=IntWalk.i64_in _ (by omega);have a2:IntKind.i64.wrap (2*d)=2*d:=IntWalk.i64_in _ (by omega);have a3:IntKind.i64.wrap (2*d-2*n)=2*d-2*n:=IntWalk.i64_in _ (by omega);by_cases h:2*n≤d
 ·have HV:=ah (show aU n d=2*n from if_pos h);go_enter Tryz.func132,Tryz.ntmps132;go_wp2_with fail;go_ret;exact ⟨by rw [HV.out]<;>rfl,(Below.refl _ _).alloc (Nat.le_refl _) _⟩
 ·have HV:=ah (show aU n d=2*d-2*n from if_neg h);go_enter Tryz.func132,Tryz.ntmps132;go_wp2_with fail;go_ret;exact ⟨by rw [HV.out]<;>rfl,(Below.refl _ _).alloc (Nat.le_refl _) _⟩
theorem Dl (n d k i:Int) (w:World) (hn0:0≤n) (hnd:n≤d) (hd1:d≤1000000000000000000) :
  Calls Tryz.prog 133 #[.agg #[],.agg #[.int .i64 n,.int .i64 d,.int .i64 k,.int .i64 i]] w fun e w'=>e=.returned (.tuple #[.agg #[.int .u64 (hw 0 (aU n d)),.int .u64 (hw 1 (aU n d)),.int .u64 (hw 2 (aU n d)),.int .u64 (hw 3 (aU n d)),.int .u64 (hw 4 (aU n d)),.int .u64 (hw 5 (aU n d))],.agg #[.int .u64 (hw 0 d),.int .u64 (hw 1 d),.int .u64 (hw 2 d),.int .u64 (hw 3 d),.int .u64 (hw 4 d),.int .u64 (hw 5 d)]])∧Below w.heap.size w w':=by
 have hd0:0≤d:=by omega
 have hd2:d≤9223372036854775807:=by omega
 obtain ⟨hp0,hp2⟩:=rR hn0 hnd;have hp1:aU n d≤9223372036854775807:=by omega
 have HT1:=ah (show aH ((((w.alloc (.cells #[] 145)).alloc (.cells #[.int .i64 n,.int .i64 d,.int .i64 k,.int .i64 i] 123)).alloc (.cells #[.int .u64 0,.int .u64 0,.int .u64 0,.int .u64 0,.int .u64 0,.int .u64 0] 88)).alloc (.cells #[.int .u64 0,.int .u64 0,.int .u64 0,.int .u64 0,.int .u64 0,.int .u64 0] 88)) (w.heap.size+1) 123 #[.int .i64 n,.int .i64 d,.int .i64 k,.int .i64 i] from by
  have h:=((aH.new (w.alloc (.cells #[] 145)) #[.int .i64 n,.int .i64 d,.int .i64 k,.int .i64 i] 123).alloc (.cells #[.int .u64 0,.int .u64 0,.int .u64 0,.int .u64 0,.int .u64 0,.int .u64 0] 88)).alloc (.cells #[.int .u64 0,.int .u64 0,.int .u64 0,.int .u64 0,.int .u64 0,.int .u64 0] 88);simpa only [World.size_alloc] using h)
 have HT2:=ah (show aH ((((w.alloc (.cells #[] 145)).alloc (.cells #[.int .i64 n,.int .i64 d,.int .i64 k,.int .i64 i] 123)).alloc (.cells #[.int .u64 0,.int .u64 0,.int .u64 0,.int .u64 0,.int .u64 0,.int .u64 0] 88)).alloc (.cells #[.int .u64 0,.int .u64 0,.int .u64 0,.int .u64 0,.int .u64 0,.int .u64 0] 88)) (w.heap.size+2) 88 #[.int .u64 0,.int .u64 0,.int .u64 0,.int .u64 0,.int .u64 0,.int .u64 0] from by
  have h:=(aH.new ((w.alloc (.cells #[] 145)).alloc (.cells #[.int .i64 n,.int .i64 d,.int .i64 k,.int .i64 i] 123)) #[.int .u64 0,.int .u64 0,.int .u64 0,.int .u64 0,.int .u64 0,.int .u64 0] 88).alloc (.cells #[.int .u64 0,.int .u64 0,.int .u64 0,.int .u64 0,.int .u64 0,.int .u64 0] 88);simpa only [World.size_alloc] using h)
 have HT3:=ah (show aH ((((w.alloc (.cells #[] 145)).alloc (.cells #[.int .i64 n,.int .i64 d,.int .i64 k,.int .i64 i] 123)).alloc (.cells #[.int .u64 0,.int .u64 0,.int .u64 0,.int .u64 0,.int .u64 0,.int .u64 0] 88)).alloc (.cells #[.int .u64 0,.int .u64 0,.int .u64 0,.int .u64 0,.int .u64 0,.int .u64 0] 88)) (w.heap.size+3) 88 #[.int .u64 0,.int .u64 0,.int .u64 0,.int .u64 0,.int .u64 0,.int .u64 0] from by
  have h:=aH.new (((w.alloc (.cells #[] 145)).alloc (.cells #[.int .i64 n,.int .i64 d,.int .i64 k,.int .i64 i] 123)).alloc (.cells #[.int .u64 0,.int .u64 0,.int .u64 0,.int .u64 0,.int .u64 0,.int .u64 0] 88)) #[.int .u64 0,.int .u64 0,.int .u64 0,.int .u64 0,.int .u64 0,.int .u64 0] 88;simpa only [World.size_alloc] using h)
 have HB:=ah (show Below w.heap.size w ((((w.alloc (.cells #[] 145)).alloc (.cells #[.int .i64 n,.int .i64 d,.int .i64 k,.int .i64 i] 123)).alloc (.cells #[.int .u64 0,.int .u64 0,.int .u64 0,.int .u64 0,.int .u64 0,.int .u64 0] 88)).alloc (.cells #[.int .u64 0,.int .u64 0,.int .u64 0,.int .u64 0,.int .u64 0,.int .u64 0] 88)) from ((((Below.refl _ _).alloc (Nat.le_refl _) _).alloc (by simp) _).alloc (by simp;omega) _).alloc (by simp;omega) _);go_enter Tryz.func133,Tryz.ntmps133;go_upto_region 1 with fail;generalize hw1:((((w.alloc (.cells #[] 145)).alloc (.cells #[.int .i64 n,.int .i64 d,.int .i64 k,.int .i64 i] 123)).alloc (.cells #[.int .u64 0,.int .u64 0,.int .u64 0,.int .u64 0,.int .u64 0,.int .u64 0] 88)).alloc (.cells #[.int .u64 0,.int .u64 0,.int .u64 0,.int .u64 0,.int .u64 0,.int .u64 0] 88))=w1 at *;clear hw1;refine aX (by kernel_rfl) 6 (by simp) (by kernel_rfl) (by kernel_rfl) (by kernel_rfl) (by kernel_rfl) (fun jx vx wx=>match jx with | 0=>vx=(.agg #[.int .i64 n,.int .i64 d,.int .i64 k,.int .i64 i]) | 1=>vx=(.int .i64 (aU n d)) | 2=>vx=(.agg #[.int .u64 (hw 0 (aU n d)),.int .u64 (hw 1 (aU n d)),.int .u64 (hw 2 (aU n d)),.int .u64 (hw 3 (aU n d)),.int .u64 (hw 4 (aU n d)),.int .u64 (hw 5 (aU n d))]) | 3=>vx=(.pointer (some ⟨w.heap.size+1,1,none⟩)) | 4=>vx=(.int .i64 d) | 5=>vx=(.agg #[.int .u64 (hw 0 d),.int .u64 (hw 1 d),.int .u64 (hw 2 d),.int .u64 (hw 3 d),.int .u64 (hw 4 d),.int .u64 (hw 5 d)]) | _=>True) (fun W=>Below w1.heap.size w1 W) (fun wx wy=>Below wx.heap.size wx wy) (Below.refl _ _).drew ?_ ?_ ?_ ?_
 ·intro jx vx wx wy h g
  match jx,h with
  | 0,h | 1,h | 2,h | 3,h | 4,h | 5,h=>exact h
  | jx+6,h=>exact trivial
 ·intro jx ox dx hj ho hd;exact bO (by kernel_rfl) hj ho hd
 ·intro ix ox ax W hi aC hsh hW hpre;have hsz:w1.heap.size≤W.heap.size:=hW.size;have GA:∀ob,Below W.heap.size W (W.alloc ob):=fun ob=>(Below.refl _ _).alloc (Nat.le_refl _) ob;have WA:∀ob,Below w1.heap.size w1 (W.alloc ob):=fun ob=>hW.alloc hsz ob;have t3:ax.tmps[3]?.getD undef=(.pointer (some ⟨w.heap.size+1,0,none⟩)):=gT (hsh.2.2 3 (aM (by kernel_rfl)));obtain ⟨q0,q1,q2,q3⟩:W.cell? ⟨w.heap.size+1,0,none⟩=some (.int .i64 n)∧W.cell? ⟨w.heap.size+1,1,none⟩=some (.int .i64 d)∧W.cell? ⟨w.heap.size+1,2,none⟩=some (.int .i64 k)∧W.cell? ⟨w.heap.size+1,3,none⟩=some (.int .i64 i):=⟨(HT1.out.below hW).cell (i:=0) rfl,(HT1.out.below hW).cell (i:=1) rfl,(HT1.out.below hW).cell (i:=2) rfl,(HT1.out.below hW).cell (i:=3) rfl⟩;clear hsh
  match ix,hi,aC with
  | 0,_,aC=>
   cases aC;exact au (w':=W) (by simp [execOp,Act.eval,t3,q0,q1,q2,q3,go_sem]) (aS hW)
  | 1,_,aC=>
   cases aC;have f0:=gT (hpre ⟨0,.data⟩ (by simp) (by rfl) _ _ rfl rfl);refine aG (by simp [execOp,Act.eval,f0,go_sem]) ((Fy n d k i W hn0 hnd hd1).mono ?_);rintro ex wy ⟨rfl,hb⟩;exact ⟨_,rfl,_,rfl,rfl,hW.trans (hb.mono hsz),hb⟩
  | 2,_,aC=>
   cases aC;have f1:=gT (hpre ⟨1,.data⟩ (by simp) (by rfl) _ _ rfl rfl);refine aG (by simp [execOp,Act.eval,f1,go_sem]) ((xJ _ hp0 hp1 W).mono ?_);rintro ex wy ⟨rfl,hb⟩;exact ⟨_,rfl,_,rfl,rfl,hW.trans (hb.mono hsz),hb⟩
  | 3,_,aC=>
   cases aC;exact au (w':=W) (by simp [execOp,Act.eval,t3,go_sem]) (aS hW)
  | 4,_,aC=>
   cases aC;have f3:=gT (hpre ⟨3,.data⟩ (by simp) (by rfl) _ _ rfl rfl);exact au (w':=W) (by simp [execOp,Act.eval,q1,f3,go_sem]) (aS hW)
  | 5,_,aC=>
   cases aC;have f4:=gT (hpre ⟨4,.data⟩ (by simp) (by rfl) _ _ rfl rfl);refine aG (by simp [execOp,Act.eval,f4,go_sem]) ((xJ d hd0 hd2 W).mono ?_);rintro ex wy ⟨rfl,hb⟩;exact ⟨_,rfl,_,rfl,rfl,hW.trans (hb.mono hsz),hb⟩
  | ix+6,hi,_=>exact absurd hi (by omega)
 ·intro ax W hsh hW hφ;have e0:=hφ 0 _ _ (by omega) rfl rfl;have e1:=hφ 1 _ _ (by omega) rfl rfl;have e2:=hφ 2 _ _ (by omega) rfl rfl;have e3:=hφ 3 _ _ (by omega) rfl rfl;have e4:=hφ 4 _ _ (by omega) rfl rfl;have e5:=hφ 5 _ _ (by omega) rfl rfl;rw [bf hsh [(6,_),(7,_),(8,_),(9,_),(10,_),(11,_)] [6,7,8,9,10,11] rfl (by kernel_rfl) ⟨e0,e1,e2,e3,e4,e5,trivial⟩];clear hφ hsh e0 e1 e2 e3 e4 e5;simp only [cB,List.foldl_cons,List.foldl_nil,List.drop_succ_cons,List.drop_zero,Act.put,List.setIfInBounds_toArray,List.set_cons_succ,List.set_cons_zero];have bA:=ah (HB.out.trans (hW.mono (by have:=HT3.out.lt;omega)));have r2:=HT2.out.below hW;have r3:=HT3.out.below hW;clear hW;refine aZ W rfl _ _ rfl (w.heap.size+2) rfl rfl r2 ?_;intro wy t2 g2;simp only [Act.put];refine aZ wy rfl _ _ rfl (w.heap.size+3) rfl rfl (r3.fE g2 (by omega)) ?_;intro wz t3 g3;simp only [Act.put];have t2':=t2.fE g3 (by omega);have gu:=ah (aY (aY bA.out g2 bA.out.size (by omega)) g3 (by have:=bA.out.size;have:=g2.size;omega) (by omega));have x0:=t2'.cell (i:=0) rfl;have y0:=t3.cell (i:=0) rfl;have x1:=t2'.cell (i:=1) rfl;have y1:=t3.cell (i:=1) rfl;have x2:=t2'.cell (i:=2) rfl;have y2:=t3.cell (i:=2) rfl;have x3:=t2'.cell (i:=3) rfl;have y3:=t3.cell (i:=3) rfl;have x4:=t2'.cell (i:=4) rfl;have y4:=t3.cell (i:=4) rfl;have x5:=t2'.cell (i:=5) rfl;have y5:=t3.cell (i:=5) rfl;clear t2 t2' t3 g2 g3 r2 r3 bA;go_wp2_with fail;exact bodyPost_ret (v:=.tuple #[.agg #[.int .u64 (hw 0 (aU n d)),.int .u64 (hw 1 (aU n d)),.int .u64 (hw 2 (aU n d)),.int .u64 (hw 3 (aU n d)),.int .u64 (hw 4 (aU n d)),.int .u64 (hw 5 (aU n d))],.agg #[.int .u64 (hw 0 d),.int .u64 (hw 1 d),.int .u64 (hw 2 d),.int .u64 (hw 3 d),.int .u64 (hw 4 d),.int .u64 (hw 5 d)]]) (by simp [results,Tryz.results133,go_sem,x0,y0,x1,y1,x2,y2,x3,y3,x4,y4,x5,y5]) rfl ⟨rfl,gu.out⟩
end Go.Proofs.YtopmdeefcjdadaaGreat
