import Derived.Test.YtopmdeefcjdadaaGreatT42M00
import Derived.Test.YtopmdeefcjdadaaGreatT42M17
import Derived.Test.YtopmdeefcjdadaaGreatT42M05
import Derived.Test.YtopmdeefcjdadaaGreatT42M10
import Derived.Test.YtopmdeefcjdadaaGreatT42M02
set_option linter.unusedVariables false
set_option linter.unusedSimpArgs false
set_option maxRecDepth 100000
set_option maxHeartbeats 32000000
namespace Go.Proofs.YtopmdeefcjdadaaGreat
open Go.RowKit
theorem F7 (s:dM):isK s.k s=true:=by simp [isK]
theorem iW {k:Int×ByteArray} {s:dM}:isK k s=true↔s.k=k:=by simp [isK]
theorem xY {x:Run} {t:Int} {nO:Int×ByteArray→Int} {s:dM} (h:s∈dQ x t nO):s.k∈x.aO:=by
 unfold dQ at h;split at h
 ·cases h
 ·unfold ng at h;rw [List.mem_mapIdx] at h;obtain ⟨i,hi,rfl⟩:=h;exact List.getElem_mem hi
theorem Cz {r:iK} {xs:List Run} {base:List dM} {t:Int} (h:vN r xs base t=0):bR r=0∧xs.length≤100∧jF r xs=0∧dF r base=0∧0≤t∧t≤36000000:=by
 unfold vN at h;by_cases c:ru (bR r) (dN (decide (100<xs.length)) 2)=0
 ·rw [if_neg (by simpa using c)] at h;by_cases d:jF r xs=0
  ·rw [if_neg (by simpa using d)] at h;unfold ru at c;by_cases e:bR r=0
   ·rw [if_pos e] at c;unfold dN at c;by_cases f:100<xs.length
    ·simp [f] at c
    ·unfold ru at h;by_cases g:dF r base=0
     ·rw [if_pos g] at h;unfold dN at h;cases i:bW t 0 36000000
      ·simp [i] at h
      ·exact ⟨e,by omega,d,g,(nZ _ _ _).1 i⟩
     ·rw [if_neg g] at h;exact absurd h g
   ·rw [if_neg e] at c;exact absurd c e
  ·rw [if_pos d] at h;exact absurd h d
 ·rw [if_pos c] at h;exact absurd h c
theorem vL (k:Int×ByteArray) (s:dM):∀l:List dM,(l.map (fun y=>if isK s.k y then s else y)).find? (isK k)=if s.k=k then (if l.any (isK k) then some s else none) else l.find? (isK k)
 | []=>by simp
 | a::l=>by
  have ih:=vL k s l;by_cases c:s.k=k
  ·rw [if_pos c] at ih ⊢;subst c;by_cases d:isK s.k a=true
   ·simp [d,F7]
   ·simp only [List.map_cons,List.find?_cons,d,Bool.false_eq_true,if_false,ih,List.any_cons,Bool.false_or]
  ·rw [if_neg c] at ih ⊢;by_cases d:isK s.k a=true
   ·have e:isK k a=false:=by
     rw [iW] at d;simp only [isK,decide_eq_false_iff_not];rw [d];exact c
    have e2:isK k s=false:=by simpa [isK] using c
    simp [d,e,e2,ih]
   ·simp only [List.map_cons,List.find?_cons,d,Bool.false_eq_true,if_false,ih]
theorem P8 (r:iK) (l:List dM) (s:dM) (k:Int×ByteArray):oD r (iR l s) k=if s.k=k then some s.lv else oD r l k:=by
 unfold oD iR;by_cases c:l.any (isK s.k)=true
 ·rw [if_pos c,←List.map_reverse,vL];by_cases d:s.k=k
  ·subst d;rw [if_pos rfl,if_pos rfl];have:l.reverse.any (isK s.k)=true:=by rw [List.any_reverse];exact c
   rw [if_pos this]
  ·rw [if_neg d,if_neg d]
 ·rw [if_neg c,List.reverse_append];simp only [List.reverse_cons,List.reverse_nil,List.nil_append,List.singleton_append,List.find?_cons];by_cases d:s.k=k
  ·subst d;simp [F7]
  ·have:isK k s=false:=by simpa [isK] using d
   rw [this,if_neg d]
def xL (l:List dM) (k:Int×ByteArray):Option Nat:=if l.any (isK k) then some (l.findIdx (isK k)) else none
theorem qG {l:List dM} {k:Int×ByteArray} {i:Nat} (h:xL l k=some i):∃hi:i<l.length,(l[i]'hi).k=k:=by
 unfold xL at h;by_cases c:l.any (isK k)=true
 ·rw [if_pos c] at h;cases h
  have hi:l.findIdx (isK k)<l.length:=by
   rw [List.findIdx_lt_length];simpa [List.any_eq_true] using c
  exact ⟨hi,iW.1 (List.findIdx_getElem (w:=hi))⟩
 ·rw [if_neg c] at h;cases h
def eO (l:List dM):Prop:=(l.map dM.k).Nodup
theorem yL {l:List dM} (hl:eO l) {s:dM} {i:Nat} (h:xL l s.k=some i):iR l s=l.set i s:=by
 obtain ⟨hi,hk⟩:=qG h
 have c:l.any (isK s.k)=true:=by
  unfold xL at h;by_cases c:l.any (isK s.k)=true
  ·exact c
  ·rw [if_neg c] at h;cases h
 unfold iR;rw [if_pos c];apply List.ext_getElem (by simp);intro j h1 h2;simp only [List.length_map] at h1;rw [List.getElem_map,List.getElem_set];by_cases e:i=j
 ·subst e;rw [if_pos rfl,if_pos (iW.2 hk)]
 ·rw [if_neg e,if_neg];intro hc;rw [iW] at hc;have hc2:l[j].k=l[i].k:=hc.trans hk.symm;have hn:=List.pairwise_iff_getElem.1 hl;rcases Nat.lt_or_gt_of_ne e with e | e
  ·exact hn i j (by simpa using hi) (by simpa using h1) e (by rw [List.getElem_map,List.getElem_map];exact hc2.symm)
  ·exact hn j i (by simpa using h1) (by simpa using hi) e (by rw [List.getElem_map,List.getElem_map];exact hc2)
theorem rP {l:List dM} {s:dM} (h:xL l s.k=none):iR l s=l++[s]:=by
 have c:¬l.any (isK s.k)=true:=by
  intro c;unfold xL at h;rw [if_pos c] at h;cases h
 unfold iR;rw [if_neg c]
theorem vG {l:List dM} (hl:eO l) (s:dM):eO (iR l s):=by
 cases h:xL l s.k with
 | some i=>
  rw [yL hl h];obtain ⟨hi,hk⟩:=qG h;unfold eO at *;rw [List.map_set,←hk]
  have:(l.map dM.k).set i l[i].k=l.map dM.k:=by
   apply List.ext_getElem (by simp);intro j h1 h2;rw [List.getElem_set];by_cases e:i=j
   ·subst e;simp
   ·rw [if_neg e]
  rwa [this]
 | none=>
  rw [rP h];unfold eO at *;rw [List.map_append,List.nodup_append];refine ⟨hl,by simp,?_⟩;intro a ha b hb e;simp at hb;subst hb e;obtain ⟨y,hy,hk⟩:=List.mem_map.1 ha;have c:l.any (isK s.k)=true:=List.any_eq_true.2 ⟨y,hy,iW.2 hk⟩;unfold xL at h;rw [if_pos c] at h;cases h
theorem qD {l:List dM} (hl:eO l) {k:Int×ByteArray} {i:Nat} (hi:i<l.length) (hk:l[i].k=k):xL l k=some i:=by
 have c:l.any (isK k)=true:=List.any_eq_true.2 ⟨_,List.getElem_mem hi,iW.2 hk⟩;obtain ⟨j,hj⟩:∃j,xL l k=some j:=by unfold xL;rw [if_pos c];exact ⟨_,rfl⟩
 obtain ⟨hj1,hj2⟩:=qG hj;rw [hj];have hn:=List.pairwise_iff_getElem.1 hl;by_cases e:i=j
 ·rw [e]
 ·rcases Nat.lt_or_gt_of_ne e with e | e
  ·exact absurd (by rw [List.getElem_map,List.getElem_map];exact hk.trans hj2.symm) (hn i j (by simpa using hi) (by simpa using hj1) e)
  ·exact absurd (by rw [List.getElem_map,List.getElem_map];exact hj2.trans hk.symm) (hn j i (by simpa using hj1) (by simpa using hi) e)
theorem sI {l:List dM} {k:Int×ByteArray}:xL l k=none↔∀y∈l,y.k≠k:=by
 unfold xL;by_cases c:l.any (isK k)=true
 ·rw [if_pos c];obtain ⟨y,hy,h⟩:=List.any_eq_true.1 c;exact ⟨fun h=>(by cases h),fun h2=>absurd (iW.1 h) (h2 y hy)⟩
 ·rw [if_neg c];exact ⟨fun _ y hy e=>c (List.any_eq_true.2 ⟨y,hy,iW.2 e⟩),fun _=>rfl⟩
theorem Eh {l:List dM} (hl:eO l) (s:dM) (k:Int×ByteArray):xL (iR l s) k=if s.k=k then some ((xL l s.k).getD l.length) else xL l k:=by
 have hO:=vG hl s
 cases h:xL l s.k with
 | some i=>
  obtain ⟨hi,hk⟩:=qG h;rw [yL hl h] at hO ⊢;by_cases c:s.k=k
  ·rw [if_pos c];exact qD hO (i:=i) (by simpa using hi) (by simpa using c)
  ·rw [if_neg c]
   cases g:xL l k with
   | some j=>
    obtain ⟨hj,hk2⟩:=qG g
    have hne:i≠j:=by
     intro e;subst e;exact c (hk.symm.trans hk2)
    exact qD hO (i:=j) (by simpa using hj) (by rw [List.getElem_set_ne hne];exact hk2)
   | none=>
    rw [sI] at g ⊢;intro y hy;rcases List.mem_or_eq_of_mem_set hy with hy | rfl
    ·exact g y hy
    ·exact c
 | none=>
  rw [rP h] at hO ⊢;by_cases c:s.k=k
  ·rw [if_pos c];exact qD hO (i:=l.length) (by simp) (by simpa using c)
  ·rw [if_neg c]
   cases g:xL l k with
   | some j=>
    obtain ⟨hj,hk2⟩:=qG g;exact qD hO (i:=j) (by simp;omega) (by rw [List.getElem_append_left hj];exact hk2)
   | none=>
    rw [sI] at g ⊢;intro y hy;rcases List.mem_append.1 hy with hy | hy
    ·exact g y hy
    ·simp at hy;subst hy;exact c
theorem F6 {r:iK} {l:List dM} (h:dF r l=0):eO l:=by
 unfold eO;rw [List.Nodup,List.pairwise_map,List.pairwise_iff_getElem];intro i j hi hj hij e;have h1:=fP _ _ h j hj;unfold qX at h1;split at h1
 ·cases h1
 ·split at h1
  ·cases h1
  ·split at h1
   ·cases h1
   ·rename_i c
    apply c;rw [List.any_eq_true];refine ⟨l[i],?_,iW.2 e⟩;rw [List.mem_take_iff_getElem];exact ⟨i,by omega,rfl⟩
theorem BI {r:iK} {l:List dM} (h:dF r l=0) {s:dM} (hs:s∈l):(nS r s.k).isSome∧0≤s.lv∧s.lv≤65535:=by
 obtain ⟨j,hj,rfl⟩:=List.getElem_of_mem hs;have h1:=fP _ _ h j hj;unfold qX at h1;split at h1
 ·cases h1
 ·rename_i c
  split at h1
  ·cases h1
  ·rename_i d
   refine ⟨?_,?_⟩
   ·unfold nS;have:l[j].k=(l[j].unit,l[j].par):=rfl;rw [this]
    cases f:gL r l[j].unit l[j].par.data.toList with
    | none=>simp [f] at c
    | some p=>rfl
   ·have:bW l[j].lv 0 65535=true:=by simpa using d
    exact (nZ _ _ _).1 this
theorem Nt {r:iK} (h:bR r=0) {k:Int×ByteArray} {d:Int} (hd:nS r k=some d):0≤d∧d≤65535:=by
 unfold nS gL at hd
 cases hu:r.aF.find? (kK k.1) with
 | none=>rw [hu] at hd;cases hd
 | some u=>
  rw [hu] at hd;simp only at hd;have hm:=List.mem_of_find?_eq_some hu;obtain ⟨h1,h2,h3⟩:=jk h;obtain ⟨j,hj,rfl⟩:=List.getElem_of_mem hm;obtain ⟨_,_,⟨p,h4,h5⟩,_⟩:=mQ (fP _ _ h3 j hj);have h6:=oh (qE h1 (lN h4).1);unfold rT at hd;rw [h4] at hd;simp only [Option.map_some,Option.getD_some] at hd
  cases hp:kU p.iY k.2.data.toList with
  | none=>rw [hp] at hd;cases hd
  | some q=>
   rw [hp] at hd;simp at hd;subst hd;have hq:q∈p.iY:=by unfold kU at hp;exact List.mem_of_find?_eq_some hp
   obtain ⟨i,hi,rfl⟩:=List.getElem_of_mem hq;exact (mH (sZ (fP _ _ h6.2.2.2.2 i hi)).2.2.2.1).2.2
def Aw (r:iK) (l:List dM):Prop:=∀s∈l,0≤s.lv∧s.lv≤65535
theorem I8 {r:iK} (h:bR r=0) {l:List dM} (hl:Aw r l) {k:Int×ByteArray} {v:Int} (hv:oD r l k=some v):0≤v∧v≤65535:=by
 unfold oD at hv
 cases hf:l.reverse.find? (isK k) with
 | some s=>
  rw [hf] at hv;simp at hv;subst hv;exact hl s (List.mem_reverse.1 (List.mem_of_find?_eq_some hf))
 | none=>
  rw [hf] at hv;exact Nt h hv
theorem Aa {r:iK} (h:bR r=0) {l:List dM} (hl:Aw r l) (k:Int×ByteArray):0≤qB r l k∧qB r l k≤65535:=by
 unfold qB
 cases hv:oD r l k with
 | none=>simp
 | some v=>exact I8 h hl hv
theorem I7 {r:iK} {l:List dM} (hl:Aw r l) {s:dM} (h:0≤s.lv∧s.lv≤65535):Aw r (iR l s):=by
 intro y hy;unfold iR at hy;split at hy
 ·obtain ⟨z,hz,rfl⟩:=List.mem_map.1 hy;split
  ·exact h
  ·exact hl z hz
 ·rcases List.mem_append.1 hy with hy | hy
  ·exact hl y hy
  ·simp at hy;subst hy;exact h
theorem Io {x:Run} {t:Int} {nO:Int×ByteArray→Int} {s:dM} (h:s∈dQ x t nO):0≤s.lv∧s.lv≤65535:=by
 unfold dQ at h;split at h
 ·cases h
 ·unfold ng at h;rw [List.mem_mapIdx] at h;obtain ⟨i,hi,rfl⟩:=h;exact Eb _
theorem FL {α:Type}:∀(l m:List α),l.Nodup→(∀x∈l,x∈m)→l.length≤m.length
 | [],m,_,_=>Nat.zero_le _
 | a::l,m,h,hm=>by
  obtain ⟨s,t,rfl⟩:=List.append_of_mem (hm a (by simp));rw [List.nodup_cons] at h
  have:=FL l (s++t) h.2 (fun x hx=>by
   have h1:=hm x (by simp [hx]);have h2:x≠a:=fun e=>h.1 (e▸hx);simp only [List.mem_append,List.mem_cons] at h1 ⊢;rcases h1 with h1 | h1 | h1
   ·exact .inl h1
   ·exact absurd h1 h2
   ·exact .inr h1)
  simp only [List.length_append,List.length_cons] at this ⊢;omega
def vO (r:iK):List (Int×ByteArray):=r.aF.flatMap fun u=>(rT r.lib u).map fun p=>(u.num,p.name)
theorem GD {r:iK} {k:Int×ByteArray} (h:(nS r k).isSome):k∈vO r:=by
 unfold nS gL at h
 cases hu:r.aF.find? (kK k.1) with
 | none=>rw [hu] at h;cases h
 | some u=>
  rw [hu] at h;simp only at h
  cases hp:kU (rT r.lib u) k.2.data.toList with
  | none=>rw [hp] at h;cases h
  | some p=>
   unfold vO;rw [List.mem_flatMap];refine ⟨u,List.mem_of_find?_eq_some hu,List.mem_map.2 ⟨p,by unfold kU at hp;exact List.mem_of_find?_eq_some hp,?_⟩⟩;have h1:u.num=k.1:=by simpa [kK] using List.find?_some hu
   have h2:p.nm=k.2.data.toList:=by unfold kU at hp;simpa [jZ] using List.find?_some hp
   have h3:p.name=k.2:=ByteArray.ext (Array.ext' h2);rw [h1,h3]
theorem GH {r:iK} (h:bR r=0):(vO r).length≤16000:=by
 have h1:=flat_le (fun u=>(rT r.lib u).map fun p=>(u.num,p.name)) 40 r.aF (fun u hu=>by
  obtain ⟨p,hp,hl,_⟩:=wU h hu;simp [rT,hp];exact hl)
 have h2:=(jk h).2.1;unfold vO;omega
theorem Rb {r:iK} (h:bR r=0) {l:List dM} (hk:eO l) (hd:∀s∈l,(nS r s.k).isSome):l.length≤16000:=by
 have h1:=FL (l.map dM.k) (vO r) hk (fun x hx=>by
  obtain ⟨s,hs,rfl⟩:=List.mem_map.1 hx;exact GD (hd s hs))
 have:=GH h;rw [List.length_map] at h1;omega
theorem BA (w:World):(zeroValue 3).run Tryz.prog w=.ok (.int .i64 0) w:=by kernel_rfl
def lvI (v:Int):Value:=.int .i64 v
def dZ (w:World) (mb m:Nat) (g:Int×ByteArray→Option Int):Prop:=
 ∃n f,n≤m∧jJ w Tryz.prog 40 mb n f∧∀k,jE k→f (mh k)=(g k).map lvI
theorem dZ.below {w w':World} {mb m:Nat} {g:Int×ByteArray→Option Int} (h:dZ w mb m g) (hb:Below w.heap.size w w'):dZ w' mb m g:=by
 obtain ⟨n,f,h1,h2,h3⟩:=h;exact ⟨n,f,h1,h2.same (hb.block _ h2.lt),h3⟩
theorem dZ.same {w w':World} {mb m:Nat} {g:Int×ByteArray→Option Int} (h:dZ w mb m g) (hb:w'.heap[mb]?=w.heap[mb]?):dZ w' mb m g:=by
 obtain ⟨n,f,h1,h2,h3⟩:=h;exact ⟨n,f,h1,h2.same hb,h3⟩
theorem dZ.fE {w w':World} {mb m b:Nat} {g:Int×ByteArray→Option Int} (h:dZ w mb m g) (hb:w.grownBy w' (some b)) (hne:mb≠b):dZ w' mb m g:=by
 obtain ⟨n,f,h1,h2,h3⟩:=h;exact ⟨n,f,h1,h2.kept hb (by intro e;injection e with e;exact hne e),h3⟩
theorem dZ.alloc {w:World} {mb m:Nat} {g:Int×ByteArray→Option Int} (h:dZ w mb m g) (o:Obj):dZ (w.alloc o) mb m g:=h.below ((Below.refl _ _).alloc (Nat.le_refl _) o)
theorem dZ.more {w:World} {mb m m':Nat} {g:Int×ByteArray→Option Int} (h:dZ w mb m g) (hm:m≤m'):dZ w mb m' g:=by
 obtain ⟨n,f,h1,h⟩:=h;exact ⟨n,f,Nat.le_trans h1 hm,h⟩
theorem dZ.lt {w:World} {mb m:Nat} {g:Int×ByteArray→Option Int} (h:dZ w mb m g):mb<w.heap.size:=by
 obtain ⟨n,f,h1,h2,_⟩:=h;exact h2.lt
theorem dZ.cast {w:World} {mb m:Nat} {g g':Int×ByteArray→Option Int} (h:dZ w mb m g) (hg:∀k,jE k→g' k=g k):dZ w mb m g':=by
 obtain ⟨n,f,h1,h2,h3⟩:=h;exact ⟨n,f,h1,h2,fun k hk=>by rw [h3 k hk,hg k hk]⟩
theorem Cq (w:World):dZ (w.alloc (.map #[] 0)) w.heap.size 0 (fun _=>none):=⟨0,_,Nat.le_refl _,Cj w _ _,fun k _=>rfl⟩
theorem dZ.P5 {w:World} {mb m:Nat} {g:Int×ByteArray→Option Int} (h:dZ w mb m g) {u:Int} {s:ByteArray} (hk:jE (u,s)) {o:Option Int} (ho:g (u,s)=o) :
  (Instr.lookup 48 (.map (some mb)) (.agg #[.int .i64 u,.string s]) true).run Tryz.prog w=.ok (.tuple #[.int .i64 (o.getD 0),.bool o.isSome]) w:=by
 obtain ⟨n,f,h1,h2,h3⟩:=h;have:=h2.look true nD (t:=48) Tryz.underlying48 (BA _) (jX hk);rw [h3 _ hk,ho] at this
 cases o with
 | none=>exact this
 | some v=>exact this
theorem dZ.look1 {w:World} {mb m:Nat} {g:Int×ByteArray→Option Int} (h:dZ w mb m g) {u:Int} {s:ByteArray} (hk:jE (u,s)) :
  (Instr.lookup 48 (.map (some mb)) (.agg #[.int .i64 u,.string s]) false).run Tryz.prog w=.ok (.int .i64 ((g (u,s)).getD 0)) w:=by
 obtain ⟨n,f,h1,h2,h3⟩:=h;have:=h2.look false nD (t:=48) Tryz.underlying48 (BA _) (jX hk);rw [h3 _ hk] at this
 cases hg:g (u,s) with
 | none=>rw [hg] at this;exact this
 | some v=>rw [hg] at this;exact this
def Fv (g:Int×ByteArray→Option Int) (k:Int×ByteArray) (v:Int):Int×ByteArray→Option Int:=fun x=>if k=x then some v else g x
theorem dZ.put {w:World} {mb m:Nat} {g:Int×ByteArray→Option Int} (h:dZ w mb m g) {u:Int} {s:ByteArray} (hk:jE (u,s)) (v:Int) (hm:m<maxLen) :
  ∃w',(Instr.mapUpdate 48 (.map (some mb)) (.agg #[.int .i64 u,.string s]) (.int .i64 v)).run Tryz.prog w=.ok () w'∧dZ w' mb (m+1) (Fv g (u,s) v)∧w.grownBy w' (some mb):=by
 obtain ⟨n,f,h1,h2,h3⟩:=h;obtain ⟨w',hr,hM,hg⟩:=h2.update nD (t:=48) Tryz.underlying48 (by omega) (jX hk) (val:=.int .i64 v);refine ⟨w',hr,⟨n+1,_,by omega,hM,fun k hk'=>?_⟩,hg⟩;unfold Fv;by_cases c:(u,s)=k
 ·subst c;rw [mV (nD.key (jX hk)),if_pos rfl];rfl
 ·rw [jP (fun e=>c (Ae hk' hk e).symm),if_neg c,h3 k hk']
def Oi (r:iK) (k:Nat) (key:Int×ByteArray):Option Int:=nS ⟨r.lib,r.aF.take k⟩ key
theorem dfU_all (r:iK):Oi r r.aF.length=nS r:=by
 funext key
 unfold Oi;rw [List.take_length]
theorem Rl (r:iK) (key:Int×ByteArray):Oi r 0 key=none:=by unfold Oi nS gL;simp
def dfP (r:iK) (k:Nat) (u:gX) (ps:List jy) (j:Nat) (key:Int×ByteArray):Option Int:=if key.1=u.num then (kU (ps.take j) key.2.data.toList).map jy.dflt else Oi r k key
theorem Ns {r:iK} (ha:N8 r.aF) {k:Nat} (hk:k<r.aF.length) (ps:List jy) (key:Int×ByteArray):dfP r k r.aF[k] ps 0 key=Oi r k key:=by
 unfold dfP;by_cases c:key.1=r.aF[k].num
 ·rw [if_pos c]
  have:(r.aF.take k).find? (kK key.1)=none:=by
   rw [List.find?_eq_none];intro u hu hn;obtain ⟨j,hj,rfl⟩:=List.mem_take_iff_getElem.1 hu;have h1:=ha j k (by omega) hk (by omega);have h2:r.aF[j].num=key.1:=by simpa [kK] using hn
   omega
  unfold Oi nS gL;simp only [this];rfl
 ·rw [if_neg c]
theorem dfP_end {r:iK} (ha:N8 r.aF) {k:Nat} (hk:k<r.aF.length) {p:Prf} (hp:cZ r.lib r.aF[k].nm=some p) (key:Int×ByteArray):dfP r k r.aF[k] p.iY p.iY.length key=Oi r (k+1) key:=by
 have hx:(r.aF.take (k+1)).find? (kK key.1)=((r.aF.take k).find? (kK key.1)).or (if kK key.1 r.aF[k] then some r.aF[k] else none):=by
  rw [List.take_succ_eq_append_getElem hk,List.find?_append];congr 1
  cases h:kK key.1 r.aF[k]<;>simp [h]
 unfold dfP;by_cases c:key.1=r.aF[k].num
 ·rw [if_pos c,List.take_length]
  have h1:(r.aF.take k).find? (kK key.1)=none:=by
   rw [List.find?_eq_none];intro u hu hn;obtain ⟨j,hj,rfl⟩:=List.mem_take_iff_getElem.1 hu;have h1:=ha j k (by omega) hk (by omega);have h2:r.aF[j].num=key.1:=by simpa [kK] using hn
   omega
  have h2:kK key.1 r.aF[k]=true:=by simp [kK,c]
  unfold Oi nS gL;simp only [hx,h1,h2,if_true,Option.none_or];unfold rT;rw [hp];rfl
 ·rw [if_neg c];have h2:kK key.1 r.aF[k]=false:=by simp only [kK,decide_eq_false_iff_not];exact fun e=>c e.symm
  unfold Oi nS gL;simp only [hx,h2,Bool.false_eq_true,if_false,Option.or_none]
theorem Rm {r:iK} {k:Nat} {u:gX} {ps:List jy} {j:Nat} (hj:j<ps.length) (hn:ps[j].nm∉(ps.take j).map jy.nm) (key:Int×ByteArray) :
  dfP r k u ps (j+1) key=Fv (dfP r k u ps j) (u.num,ps[j].name) ps[j].dflt key:=by
 have hx:kU (ps.take (j+1)) key.2.data.toList=(kU (ps.take j) key.2.data.toList).or (if jZ key.2.data.toList ps[j] then some ps[j] else none):=by
  unfold kU;rw [List.take_succ_eq_append_getElem hj,List.find?_append];congr 1
  cases h:jZ key.2.data.toList ps[j]<;>simp [h]
 unfold Fv dfP;by_cases c:(u.num,ps[j].name)=key
 ·subst c;simp only [if_true]
  have h1:kU (ps.take j) ps[j].name.data.toList=none:=by
   unfold kU;rw [List.find?_eq_none];intro q hq he;apply hn;rw [List.mem_map];exact ⟨q,hq,by simpa [jZ,jy.nm] using he⟩
  have h2:jZ ps[j].name.data.toList ps[j]=true:=by simp [jZ,jy.nm]
  simp only [hx,h1,h2,if_true,Option.none_or,Option.map_some]
 ·rw [if_neg c];by_cases d:key.1=u.num
  ·rw [if_pos d,if_pos d]
   have h2:jZ key.2.data.toList ps[j]=false:=by
    simp only [jZ,decide_eq_false_iff_not];intro e;apply c;have e2:ps[j].name=key.2:=ByteArray.ext (Array.ext' e);rw [←d,e2]
   rw [hx,h2];simp
  ·rw [if_neg d,if_neg d]
theorem Nz (r:iK) (x:Run) (sv kv rv:Value) (mb m:Nat) (w:World) (hM:dZ w mb m (nS r)) (hx:lY w.heap.size w x sv kv rv) (hf:nK x) :
  Calls Tryz.prog 15 #[uE x sv kv rv,.map (some mb)] w fun e w'=>e=.returned (.int .i64 (dV r x))∧Below w.heap.size w w':=by
 have HMK:=ah (show mb<w.heap.size∧∀W,Below w.heap.size w W→dZ W mb m (nS r) from ⟨hM.lt,fun W hb=>hM.below hb⟩);clear hM;have CE:=ah (fun W (hb:Below w.heap.size w W)=>fun ao cap (hsv:sv=.slice ao x.ef.jV.length cap)=>Gl x.ef.aK x.ef.low x.ef.aD x.ef.aA x.ef.ay x.ef.ak x.ef.aI x.ef.rel ao cap x.ef.jV W (pW (by rw [←hsv];exact (hx.jV.below hb).more hb.size)) (by obtain ⟨_,_,_,h,_⟩:=hx.jV;exact h));have Ot:=ah hf.2.1;obtain ⟨⟨aK,low,aD,aA,ay,ak,aI,rel,st⟩,aO,aB,aJ,bP,aN,aQ⟩:=x;obtain ⟨hsv,hkv,tX⟩:=hx;simp only [uE] at *;obtain ⟨so,cO,rfl,_,_⟩:=hsv;obtain ⟨ko,dG,rfl,hk1,hk2,hk3⟩:=hkv;obtain ⟨ro,bD,rfl,hr1,hr2,hr3⟩:=tX;unfold maxLen at hk2 hr2;have CE:=ah (fun W (hb:Below w.heap.size w W)=>CE.out W hb _ _ rfl)
 have HK:=ah (show ∀k (h:k<aO.length),∃b off,ko=some ⟨b,off,none⟩∧b<w.heap.size∧∀W,Below w.heap.size w W→W.cell? ⟨b,off+k*2,none⟩=some (.int .i64 aO[k].1)∧W.cell? ⟨b,off+k*2+1,none⟩=some (.string aO[k].2) from fun k h=>by
  obtain ⟨b,off,h1,h2,h3⟩:=hk3 (by omega);have hg:=jm (fun k:Int×ByteArray=>Value.int .i64 k.1) (fun k=>.string k.2) aO k h;exact ⟨b,off,h1,h2,fun W hb=>⟨(hb.cell (p:=⟨b,off+k*2,none⟩) h2).trans (h3 _ _ hg.1),(hb.cell (p:=⟨b,off+k*2+1,none⟩) h2).trans (h3 (k*2+1) _ hg.2)⟩⟩)
 have HR:=ah (show ∀k (h:k<aJ.length),∃b off,ro=some ⟨b,off,none⟩∧b<w.heap.size∧∀W,Below w.heap.size w W→W.cell? ⟨b,off+k*2,none⟩=some (.int .i64 aJ[k].1)∧W.cell? ⟨b,off+k*2+1,none⟩=some (.int .i64 aJ[k].2) from fun k h=>by
  obtain ⟨b,off,h1,h2,h3⟩:=hr3 (by omega);have hg:=jm (fun k:Int×Int=>Value.int .i64 k.1) (fun k=>.int .i64 k.2) aJ k h;exact ⟨b,off,h1,h2,fun W hb=>⟨(hb.cell (p:=⟨b,off+k*2,none⟩) h2).trans (h3 _ _ hg.1),(hb.cell (p:=⟨b,off+k*2+1,none⟩) h2).trans (h3 (k*2+1) _ hg.2)⟩⟩)
 clear hk3 hr3 hf;have uV:=ah (show dV r ⟨⟨aK,low,aD,aA,ay,ak,aI,rel,st⟩,aO,aB,aJ,bP,aN,aQ⟩=(if sF (dL aK low aD aA ay ak st) aO≠0 then sF (dL aK low aD aA ay ak st) aO else if bQ (iM r) aO 0≠0 then bQ (iM r) aO 0 else qV aB bP aN aQ aJ) from rfl);have JX:=ah (show sF (dL aK low aD aA ay ak st) aO=fi3 (dL aK low aD aA ay ak st) (dN (decide (aO.length=0)) 8) (dN (decide (400<aO.length)) 2) from rfl)
 have HLEN:=ah (show sF (dL aK low aD aA ay ak st) aO=0→0<aO.length∧aO.length≤400 from fun h=>by
  unfold sF fi3 ru dN at h;by_cases c:aO.length=0
  ·simp [c] at h;split at h<;>simp_all
  ·by_cases d:400<aO.length
   ·simp [c,d] at h;split at h<;>simp_all
   ·omega)
 generalize dV r ⟨⟨aK,low,aD,aA,ay,ak,aI,rel,st⟩,aO,aB,aJ,bP,aN,aQ⟩=RES at *;generalize sF (dL aK low aD aA ay ak st) aO=E1 at *;generalize dL aK low aD aA ay ak st=ce at *
 have KC:=ah (show ∀W,Below (w.heap.size+1) (w.alloc (.cells #[.int .i64 aK,.int .i64 low,.int .i64 aD,.int .i64 aA,.int .i64 ay,.int .i64 ak,.bool aI,.bool rel,.slice so st.length cO,.slice ko aO.length dG,.int .i64 aB,.slice ro aJ.length bD,.int .i64 bP,.int .i64 aN,.int .i64 aQ] 32)) W→(Below w.heap.size w W∧w.heap.size<W.heap.size∧(W.cell? ⟨w.heap.size,0,none⟩=some (.int .i64 aK)∧W.cell? ⟨w.heap.size,1,none⟩=some (.int .i64 low)∧W.cell? ⟨w.heap.size,2,none⟩=some (.int .i64 aD)∧W.cell? ⟨w.heap.size,3,none⟩=some (.int .i64 aA)∧W.cell? ⟨w.heap.size,4,none⟩=some (.int .i64 ay)∧W.cell? ⟨w.heap.size,5,none⟩=some (.int .i64 ak)∧W.cell? ⟨w.heap.size,6,none⟩=some (.bool aI)∧W.cell? ⟨w.heap.size,7,none⟩=some (.bool rel)∧W.cell? ⟨w.heap.size,8,none⟩=some (.slice so st.length cO)∧W.cell? ⟨w.heap.size,9,none⟩=some (.slice ko aO.length dG)∧W.cell? ⟨w.heap.size,10,none⟩=some (.int .i64 aB)∧W.cell? ⟨w.heap.size,11,none⟩=some (.slice ro aJ.length bD)∧W.cell? ⟨w.heap.size,12,none⟩=some (.int .i64 bP)∧W.cell? ⟨w.heap.size,13,none⟩=some (.int .i64 aN)∧W.cell? ⟨w.heap.size,14,none⟩=some (.int .i64 aQ))) from fun W hW=>by
  have hz:=hW.size;simp at hz;exact ⟨((Below.refl _ _).alloc (Nat.le_refl _) _).trans (hW.mono (by omega)),by omega,(hW.cell (p:=⟨w.heap.size,0,none⟩) (by simp)).trans (by simp [go_sem]),(hW.cell (p:=⟨w.heap.size,1,none⟩) (by simp)).trans (by simp [go_sem]),(hW.cell (p:=⟨w.heap.size,2,none⟩) (by simp)).trans (by simp [go_sem]),(hW.cell (p:=⟨w.heap.size,3,none⟩) (by simp)).trans (by simp [go_sem]),(hW.cell (p:=⟨w.heap.size,4,none⟩) (by simp)).trans (by simp [go_sem]),(hW.cell (p:=⟨w.heap.size,5,none⟩) (by simp)).trans (by simp [go_sem]),(hW.cell (p:=⟨w.heap.size,6,none⟩) (by simp)).trans (by simp [go_sem]),(hW.cell (p:=⟨w.heap.size,7,none⟩) (by simp)).trans (by simp [go_sem]),(hW.cell (p:=⟨w.heap.size,8,none⟩) (by simp)).trans (by simp [go_sem]),(hW.cell (p:=⟨w.heap.size,9,none⟩) (by simp)).trans (by simp [go_sem]),(hW.cell (p:=⟨w.heap.size,10,none⟩) (by simp)).trans (by simp [go_sem]),(hW.cell (p:=⟨w.heap.size,11,none⟩) (by simp)).trans (by simp [go_sem]),(hW.cell (p:=⟨w.heap.size,12,none⟩) (by simp)).trans (by simp [go_sem]),(hW.cell (p:=⟨w.heap.size,13,none⟩) (by simp)).trans (by simp [go_sem]),(hW.cell (p:=⟨w.heap.size,14,none⟩) (by simp)).trans (by simp [go_sem])⟩)
 have KA:=ah (show ∀W o,Below (w.heap.size+1) (w.alloc (.cells #[.int .i64 aK,.int .i64 low,.int .i64 aD,.int .i64 aA,.int .i64 ay,.int .i64 ak,.bool aI,.bool rel,.slice so st.length cO,.slice ko aO.length dG,.int .i64 aB,.slice ro aJ.length bD,.int .i64 bP,.int .i64 aN,.int .i64 aQ] 32)) W→Below (w.heap.size+1) (w.alloc (.cells #[.int .i64 aK,.int .i64 low,.int .i64 aD,.int .i64 aA,.int .i64 ay,.int .i64 ak,.bool aI,.bool rel,.slice so st.length cO,.slice ko aO.length dG,.int .i64 aB,.slice ro aJ.length bD,.int .i64 bP,.int .i64 aN,.int .i64 aQ] 32)) (W.alloc o) from fun W o h=>h.alloc (by have:=h.size;simp at this;omega) o);have KM:=ah (show ∀W W',Below (w.heap.size+1) (w.alloc (.cells #[.int .i64 aK,.int .i64 low,.int .i64 aD,.int .i64 aA,.int .i64 ay,.int .i64 ak,.bool aI,.bool rel,.slice so st.length cO,.slice ko aO.length dG,.int .i64 aB,.slice ro aJ.length bD,.int .i64 bP,.int .i64 aN,.int .i64 aQ] 32)) W→Below W.heap.size W W'→Below (w.heap.size+1) (w.alloc (.cells #[.int .i64 aK,.int .i64 low,.int .i64 aD,.int .i64 aA,.int .i64 ay,.int .i64 ak,.bool aI,.bool rel,.slice so st.length cO,.slice ko aO.length dG,.int .i64 aB,.slice ro aJ.length bD,.int .i64 bP,.int .i64 aN,.int .i64 aQ] 32)) W' from fun W W' h1 h2=>h1.trans (h2.mono (by have:=h1.size;simp at this;omega)))
 have hq0:((aO.length:Int)==0)=decide (aO.length=0):=by
  by_cases c:aO.length=0
  ·simp [c]
  ·simp [c]
 have hq1:(decide ((aO.length:Int)>400))=decide (400<aO.length):=by congr 1;exact propext ⟨fun h=>by omega,fun h=>by omega⟩
 go_enter Tryz.func15,Tryz.ntmps15;go_upto_region 1 with fail;go_cut [5] (fun s5 wx=>s5=.int .i64 E1∧Below (w.heap.size+1) (w.alloc (.cells #[.int .i64 aK,.int .i64 low,.int .i64 aD,.int .i64 aA,.int .i64 ay,.int .i64 ak,.bool aI,.bool rel,.slice so st.length cO,.slice ko aO.length dG,.int .i64 aB,.slice ro aJ.length bD,.int .i64 bP,.int .i64 aN,.int .i64 aQ] 32)) wx)
 case first=>
  have hw0:Below (w.heap.size+1) (w.alloc (.cells #[.int .i64 aK,.int .i64 low,.int .i64 aD,.int .i64 aA,.int .i64 ay,.int .i64 ak,.bool aI,.bool rel,.slice so st.length cO,.slice ko aO.length dG,.int .i64 aB,.slice ro aJ.length bD,.int .i64 bP,.int .i64 aN,.int .i64 aQ] 32)) (w.alloc (.cells #[.int .i64 aK,.int .i64 low,.int .i64 aD,.int .i64 aA,.int .i64 ay,.int .i64 ak,.bool aI,.bool rel,.slice so st.length cO,.slice ko aO.length dG,.int .i64 aB,.slice ro aJ.length bD,.int .i64 bP,.int .i64 aN,.int .i64 aQ] 32)):=Below.refl _ _;have hw1:Below (w.heap.size+1) (w.alloc (.cells #[.int .i64 aK,.int .i64 low,.int .i64 aD,.int .i64 aA,.int .i64 ay,.int .i64 ak,.bool aI,.bool rel,.slice so st.length cO,.slice ko aO.length dG,.int .i64 aB,.slice ro aJ.length bD,.int .i64 bP,.int .i64 aN,.int .i64 aQ] 32)) (World.drew (w.alloc (.cells #[.int .i64 aK,.int .i64 low,.int .i64 aD,.int .i64 aA,.int .i64 ay,.int .i64 ak,.bool aI,.bool rel,.slice so st.length cO,.slice ko aO.length dG,.int .i64 aB,.slice ro aJ.length bD,.int .i64 bP,.int .i64 aN,.int .i64 aQ] 32))):=(Below.refl _ _).drew
  go_region_held3 (fun W=>W.cell? ⟨w.heap.size,0,none⟩=some (.int .i64 aK)∧W.cell? ⟨w.heap.size,1,none⟩=some (.int .i64 low)∧W.cell? ⟨w.heap.size,2,none⟩=some (.int .i64 aD)∧W.cell? ⟨w.heap.size,3,none⟩=some (.int .i64 aA)∧W.cell? ⟨w.heap.size,4,none⟩=some (.int .i64 ay)∧W.cell? ⟨w.heap.size,5,none⟩=some (.int .i64 ak)∧W.cell? ⟨w.heap.size,6,none⟩=some (.bool aI)∧W.cell? ⟨w.heap.size,7,none⟩=some (.bool rel)∧W.cell? ⟨w.heap.size,8,none⟩=some (.slice so st.length cO)∧W.cell? ⟨w.heap.size,9,none⟩=some (.slice ko aO.length dG)∧W.cell? ⟨w.heap.size,10,none⟩=some (.int .i64 aB)∧W.cell? ⟨w.heap.size,11,none⟩=some (.slice ro aJ.length bD)∧W.cell? ⟨w.heap.size,12,none⟩=some (.int .i64 bP)∧W.cell? ⟨w.heap.size,13,none⟩=some (.int .i64 aN)∧W.cell? ⟨w.heap.size,14,none⟩=some (.int .i64 aQ))
   (with_reducible first | exact (KC.out _ (by assumption)).2.2 | exact (KC.out _ (KA.out _ _ (by assumption))).2.2)
   (first
    | (go_at_call 37;(with_reducible refine (CE.out _ (KC.out _ (by assumption)).1).mono ?_);rintro e WC ⟨rfl,hbC⟩;have MV:=KM.out _ _ (by assumption) hbC;clear hbC)
    | (go_at_call 17;(with_reducible refine (bZ _ _ _).mono ?_);rintro e w' ⟨rfl,rfl⟩)
    | (go_at_call 14;refine (first_3 _ ce (dN (decide (aO.length=0)) 8) (dN (decide (400<aO.length)) 2) _ (by simp [go_sem,hq0,hq1]) (by simp [go_sem,hq0,hq1]) (by simp [go_sem,hq0,hq1])).mono ?_;rw [←JX.out];rintro e w' ⟨rfl,rfl⟩)
    | fail)
  all_goals go_wp2_with fail
  all_goals go_meet
  all_goals exact ⟨rfl,by with_reducible first | assumption | exact KA.out _ _ (by assumption)⟩
 case rest=>
  obtain ⟨rfl,hb2⟩:=hcut;obtain ⟨w2,rfl⟩:∃x,x=wc:=⟨wc,rfl⟩;by_cases hE:E1=0;rotate_left
  ·have HV:=ah (show RES=E1 by rw [uV.out,if_pos hE]);have HB:=ah (KC.out _ hb2).1;clear hb2;go_wp2_with fail;go_ret;exact ⟨by rw [HV.out]<;>rfl,HB.out⟩
  ·obtain ⟨hl0,hl1⟩:=HLEN.out hE;have HC:=ah (show RES=if bQ (iM r) aO 0≠0 then bQ (iM r) aO 0 else qV aB bP aN aQ aJ by rw [uV.out,if_neg (by simp [hE])]);subst hE;clear uV JX HLEN hq0 hq1;obtain ⟨hB2,hz2,q0,q1,q2,q3,q4,q5,q6,q7,q8,q9,kS,l7,nk,ow,ou⟩:=KC.out w2 hb2;have HBM:=ah (KA.out _ (.map #[] 0) hb2);clear hB2;have hmm:=@run_makeMap Tryz.prog;go_wp2_with fail;clear hmm;go_loopw [35] (fun i wr=>∃k:Nat,k≤aO.length∧i=.int .i64 k∧Hid (RES=if bQ (iM r) aO k≠0 then bQ (iM r) aO k else qV aB bP aN aQ aJ)∧Hid (Below (w.heap.size+1) (w.alloc (.cells #[.int .i64 aK,.int .i64 low,.int .i64 aD,.int .i64 aA,.int .i64 ay,.int .i64 ak,.bool aI,.bool rel,.slice so st.length cO,.slice ko aO.length dG,.int .i64 aB,.slice ro aJ.length bD,.int .i64 bP,.int .i64 aN,.int .i64 aQ] 32)) wr)∧Hid (dH wr Tryz.prog 40 4 w2.heap.size k ((aO.take k).map mh))∧w2.heap.size<wr.heap.size) (fun i _=>aO.length-(intOf i).toNat)
   case atStart=>exact ⟨0,Nat.zero_le _,rfl,HC,HBM,ah (by simpa using mR w2 _ _ _),by simp⟩
   case round=>
    obtain ⟨k,hk,rfl,He,bA,AB,Ho⟩:=hrel;have hmbl:=HMK.out.1;obtain ⟨hB2,hz3,q0,q1,q2,q3,q4,q5,q6,q7,q8,q9,kS,l7,nk,ow,ou⟩:=KC.out wr bA.out;by_cases hlt:k<aO.length
    ·obtain ⟨b,off,rfl,hbb,hc⟩:=HK.out k hlt;obtain ⟨d0,d1⟩:=hc wr hB2;have hbr:b<wr.heap.size:=by omega
     have HKK:=ah (Ot.out _ (List.getElem_mem hlt));have hkey:=ah (jX HKK.out)
     have Ey:=ah (show mh aO[k]∈(aO.take k).map mh↔aO[k]∈aO.take k from ⟨fun h=>by
      obtain ⟨y,hy,he⟩:=List.mem_map.1 h;have:=Ae (Ot.out _ (List.mem_of_mem_take hy)) HKK.out he;rwa [←this],fun h=>List.mem_map.2 ⟨_,h,rfl⟩⟩)
     have sN:=ah (fD (iM r) aO k hlt);have iB:=ah (gD (iM r) aO k hlt);have eZ:=ah (show iM r (aO.take k) aO[k]=if (nS r aO[k]).isNone then 8 else if (aO.take k).any (fun y=>decide (y=aO[k])) then 6 else 0 from rfl);have HAI:=ah (show (aO.take k).any (fun y=>decide (y=aO[k]))=true↔aO[k]∈aO.take k by rw [List.any_eq_true];exact ⟨fun ⟨y,hy,e⟩=>by simp at e;rwa [←e],fun h=>⟨_,h,by simp⟩⟩);generalize iM r (aO.take k) aO[k]=FF at *;have um:=ah (show (aO.take (k+1)).map mh=(aO.take k).map mh++[mh aO[k]] by rw [List.take_succ_eq_append_getElem hlt,List.map_append];rfl);have HKV:=ah (show ∀o,dH (wr.alloc o) Tryz.prog 40 4 w2.heap.size k ((aO.take k).map mh) from fun o=>AB.out.kept (World.grownBy_alloc _ _ none) (by simp));generalize (aO.take k).map mh=S at *;generalize aO[k]=kk at *;obtain ⟨ku,ks⟩:=kk;obtain ⟨DO,hDO⟩:∃o,nS r (ku,ks)=o:=⟨_,rfl⟩;have hq:=((HMK.out.2 wr hB2).alloc (.cells #[.int .i64 ku,.string ks] 40)).P5 HKK.out hDO;rw [hDO] at eZ;have hmq:(some mb:Option Nat).isNone=false:=rfl;clear hc hB2;have qmap:∀(w:World) (m:Option Nat),(binOp .neq 48 (.map m) (.map none)).run Tryz.prog w=.ok (.bool (!m.isNone)) w:=fun w m=>run_neq_map_nil w _ _ _ m Tryz.underlying48
     cases DO with
     | none=>
      have HE:FF=8:=by rw [eZ.out];rfl
      have HV:=ah (show RES=8 by rw [He.out,iB.out (by rw [HE];decide),HE];rfl);clear HE;simp only [Option.getD_none,Option.isSome_none] at hq;go_wp2_with fail;go_ret;exact ⟨by rw [HV.out]<;>rfl,(KC.out _ (KA.out _ _ bA.out)).1⟩
     | some dv=>
     simp only [Option.getD_some,Option.isSome_some] at hq;by_cases hin:(ku,ks)∈aO.take k
     ·have HE:FF=6:=by rw [eZ.out,HAI.out.2 hin];rfl
      have HV:=ah (show RES=6 by rw [He.out,iB.out (by rw [HE];decide),HE];rfl);clear HE;go_wp2_with (first | (at_lookup;refine jT _ rfl _ _ 83 rfl 40 4 nD Tryz.underlying83 Tryz.underlying4 (sP _) w2.heap.size k S rfl (HKV.out _) (Ac (ku,ks)) (mh (ku,ks)) rfl hkey.out ?_;intro c hc;obtain rfl:c=true:=hc.2 (Ey.out.2 hin);clear hc) | fail);go_ret;exact ⟨by rw [HV.out]<;>rfl,(KC.out _ (KA.out _ _ bA.out)).1⟩
     ·have HE:FF=0:=by rw [eZ.out,if_neg (by simp),if_neg (fun h=>hin (HAI.out.1 h))]
      have HND2:=ah (show RES=if bQ (iM r) aO (k+1)≠0 then bQ (iM r) aO (k+1) else qV aB bP aN aQ aJ by rw [←sN.out HE];exact He.out);clear HE;go_wp2_with (first | (at_lookup;refine jT _ rfl _ _ 83 rfl 40 4 nD Tryz.underlying83 Tryz.underlying4 (sP _) w2.heap.size k S rfl (HKV.out _) (Ac (ku,ks)) (mh (ku,ks)) rfl hkey.out ?_;intro c hc;obtain rfl:c=false:=(by cases c;rfl;exact absurd (Ey.out.1 (hc.1 rfl)) hin);clear hc) | (at_mapUpdate;refine lZ _ rfl _ _ _ 83 rfl 40 4 nD Tryz.underlying83 Tryz.underlying4 w2.heap.size k S rfl (HKV.out _) (by unfold maxLen;omega) (Ac (ku,ks)) (mh (ku,ks)) rfl rfl hkey.out ?_;intro w3 hown3 hgrow3) | fail);refine ⟨⟨k+1,by omega,by first | rfl | go_num,HND2,ah ((KA.out _ _ bA.out).grown hgrow3 (by simp;omega) (fun j hj=>by cases hj;omega)),ah (by rw [um.out];exact hown3),hown3.lt⟩,?_⟩;simp [intOf];omega
    ·have hkk:k=aO.length:=by omega
     have EA:=ah (show RES=(if nJ aB bP aN aQ then 1 else if decide (aN=-1)&&decide (aQ≠0) then 3 else if 50<aJ.length then 2 else rF aB none aJ) by
      have h0:=gB (iM r) aO k (by omega);rw [He.out,if_neg (by rw [h0];simp)];rfl)
     have HB1:=ah (show nJ aB bP aN aQ=(!bW aB 0 36000000||!bW bP 0 36000000||!bW aQ 0 36000000||(decide (aN≠-1)&&!bW aN aB 36000000)) from rfl);clear HC AB He;subst hkk;clear hlt hk;go_upto_region 15 with (first | (go_at_call 18;((with_reducible refine (fU _ _).mono ?_);rintro e w' ⟨rfl,rfl⟩)) | (go_at_call 31;((with_reducible refine (aV _ _ _ _).mono ?_);rintro e w' ⟨rfl,rfl⟩)) | fail);go_cut [57] (fun s57 wx=>s57=.bool (nJ aB bP aN aQ)∧wr=wx)
     case first=>
      rcases Bool.eq_false_or_eq_true (bW aB 0 36000000) with k0 | k0;rotate_left
      ·skip;have HV:=ah (show nJ aB bP aN aQ=true by rw [HB1.out];simp [*]);go_wp2_with (first | (go_at_call 18;((with_reducible refine (fU _ _).mono ?_);rintro e w' ⟨rfl,rfl⟩)) | (go_at_call 31;((with_reducible refine (aV _ _ _ _).mono ?_);rintro e w' ⟨rfl,rfl⟩)) | fail);all_goals go_meet
       all_goals exact ⟨by rw [HV.out]<;>rfl,rfl⟩
      rcases Bool.eq_false_or_eq_true (bW bP 0 36000000) with k1 | k1;rotate_left
      ·skip;have HV:=ah (show nJ aB bP aN aQ=true by rw [HB1.out];simp [*]);go_wp2_with (first | (go_at_call 18;((with_reducible refine (fU _ _).mono ?_);rintro e w' ⟨rfl,rfl⟩)) | (go_at_call 31;((with_reducible refine (aV _ _ _ _).mono ?_);rintro e w' ⟨rfl,rfl⟩)) | fail);all_goals go_meet
       all_goals exact ⟨by rw [HV.out]<;>rfl,rfl⟩
      rcases Bool.eq_false_or_eq_true (bW aQ 0 36000000) with k2 | k2;rotate_left
      ·skip;have HV:=ah (show nJ aB bP aN aQ=true by rw [HB1.out];simp [*]);go_wp2_with (first | (go_at_call 18;((with_reducible refine (fU _ _).mono ?_);rintro e w' ⟨rfl,rfl⟩)) | (go_at_call 31;((with_reducible refine (aV _ _ _ _).mono ?_);rintro e w' ⟨rfl,rfl⟩)) | fail);all_goals go_meet
       all_goals exact ⟨by rw [HV.out]<;>rfl,rfl⟩
      by_cases ht:aN=-1
      ·subst ht;have HV:=ah (show nJ aB bP (-1) aQ=false by rw [HB1.out];simp [*]);go_wp2_with (first | (go_at_call 18;((with_reducible refine (fU _ _).mono ?_);rintro e w' ⟨rfl,rfl⟩)) | (go_at_call 31;((with_reducible refine (aV _ _ _ _).mono ?_);rintro e w' ⟨rfl,rfl⟩)) | fail);all_goals go_meet
       all_goals exact ⟨by rw [HV.out]<;>rfl,rfl⟩
      have ht1:(aN !=-1)=true:=by simp [ht]
      rcases Bool.eq_false_or_eq_true (bW aN aB 36000000) with k3 | k3;rotate_left
      ·skip;have HV:=ah (show nJ aB bP aN aQ=true by rw [HB1.out];simp [*]);go_wp2_with (first | (go_at_call 18;((with_reducible refine (fU _ _).mono ?_);rintro e w' ⟨rfl,rfl⟩)) | (go_at_call 31;((with_reducible refine (aV _ _ _ _).mono ?_);rintro e w' ⟨rfl,rfl⟩)) | fail);all_goals go_meet
       all_goals exact ⟨by rw [HV.out]<;>rfl,rfl⟩
      have HV:=ah (show nJ aB bP aN aQ=false by rw [HB1.out];simp [*]);go_wp2_with (first | (go_at_call 18;((with_reducible refine (fU _ _).mono ?_);rintro e w' ⟨rfl,rfl⟩)) | (go_at_call 31;((with_reducible refine (aV _ _ _ _).mono ?_);rintro e w' ⟨rfl,rfl⟩)) | fail);all_goals go_meet
      all_goals exact ⟨by rw [HV.out]<;>rfl,rfl⟩
     case rest=>
      obtain ⟨rfl,rfl⟩:=hcut;generalize nJ aB bP aN aQ=B1 at *;have HB2:=ah hB2;clear hB2;cases B1;rotate_left
      ·skip;have HV:=ah (show RES=1 by rw [EA.out];rfl);go_wp2_with (first | (go_at_call 18;((with_reducible refine (fU _ _).mono ?_);rintro e w' ⟨rfl,rfl⟩)) | (go_at_call 31;((with_reducible refine (aV _ _ _ _).mono ?_);rintro e w' ⟨rfl,rfl⟩)) | fail);all_goals go_ret
       all_goals exact ⟨by rw [HV.out]<;>rfl,HB2.out⟩
      go_upto_region 17 with fail;go_cut [87] (fun s87 wx=>s87=.bool (decide (aN=-1)&&decide (aQ≠0))∧wr=wx)
      case first=>
       by_cases ht:aN=-1
       ·by_cases hu:aQ=0
        ·go_wp2_with fail;all_goals go_meet
         all_goals exact ⟨by simp [ht,hu],rfl⟩
        ·go_wp2_with fail;all_goals go_meet
         all_goals exact ⟨by simp [ht,hu],rfl⟩
       ·go_wp2_with fail;all_goals go_meet
        all_goals exact ⟨by simp [ht],rfl⟩
      case rest=>
       obtain ⟨rfl,rfl⟩:=hcut;generalize (decide (aN=-1)&&decide (aQ≠0))=B2 at *;cases B2;rotate_left
       ·skip;have HV:=ah (show RES=3 by rw [EA.out];rfl);go_wp2_with (first | (go_at_call 18;((with_reducible refine (fU _ _).mono ?_);rintro e w' ⟨rfl,rfl⟩)) | (go_at_call 31;((with_reducible refine (aV _ _ _ _).mono ?_);rintro e w' ⟨rfl,rfl⟩)) | fail);all_goals go_ret
        all_goals exact ⟨by rw [HV.out]<;>rfl,HB2.out⟩
       by_cases h50:50<aJ.length
       ·skip;have HV:=ah (show RES=2 by rw [EA.out];simp [h50]);go_wp2_with (first | (go_at_call 18;((with_reducible refine (fU _ _).mono ?_);rintro e w' ⟨rfl,rfl⟩)) | (go_at_call 31;((with_reducible refine (aV _ _ _ _).mono ?_);rintro e w' ⟨rfl,rfl⟩)) | fail);all_goals go_ret
        all_goals exact ⟨by rw [HV.out]<;>rfl,HB2.out⟩
       have J4:=ah (show RES=rF aB none aJ by rw [EA.out];simp [h50]);have h51:aJ.length≤50:=by omega
       clear h50 EA HB1;go_wp2_with fail;go_loopw [104] (fun i wx=>∃k:Nat,k≤aJ.length∧i=.int .i64 k∧Hid (RES=rF aB (nu aJ k) (aJ.drop k))∧Hid (Below (w.heap.size+1) (w.alloc (.cells #[.int .i64 aK,.int .i64 low,.int .i64 aD,.int .i64 aA,.int .i64 ay,.int .i64 ak,.bool aI,.bool rel,.slice so st.length cO,.slice ko aO.length dG,.int .i64 aB,.slice ro aJ.length bD,.int .i64 bP,.int .i64 aN,.int .i64 aQ] 32)) wx)) (fun i _=>aJ.length-(intOf i).toNat)
       case atStart=>exact ⟨0,Nat.zero_le _,rfl,ah J4.out,bA⟩
       case round=>
        clear bA HB2 Ho hz3 q9 kS l7 nk ow ou;obtain ⟨k,hk2,rfl,gW,dI⟩:=hrel;obtain ⟨hB3,hz4,q0,q1,q2,q3,q4,q5,q6,q7,q8,q9,kS,l7,nk,ow,ou⟩:=KC.out _ dI.out;by_cases hlt2:k<aJ.length
        ·have HST:=ah (gW.out.trans (Km aB aJ k hlt2));obtain ⟨b,off,rfl,hbb,hc⟩:=HR.out k hlt2;obtain ⟨d0,d1⟩:=hc _ hB3;have hbr:=Nat.lt_of_lt_of_le hbb hB3.size;have pU:=ah hB3;clear hB3 gW hc;have NW:=ah (fun h0=>BQ aJ k h0 hlt2)
         have vS:=ah (fun (h0:0<k)=>show (∀W,Below w.heap.size w W→W.cell? ⟨b,off+(k-1)*2,none⟩=some (.int .i64 (aJ[k-1]'(by omega)).1)) from by
          obtain ⟨b',off',e1,_,h3⟩:=HR.out (k-1) (by omega);injection e1 with e1;injection e1 with e2 e3;subst e2 e3;exact fun W hW=>(h3 W hW).1)
         generalize aJ[k]=rk at *;obtain ⟨rt,rp⟩:=rk;simp only at d0 d1;rcases Bool.eq_false_or_eq_true (bW rt aB 36000000) with k0 | k0;rotate_left
         ·skip;have HV:=ah (show RES=1 by rw [HST.out];simp [k0]);go_wp2_with (first | (go_at_call 18;((with_reducible refine (fU _ _).mono ?_);rintro e w' ⟨rfl,rfl⟩)) | (go_at_call 31;((with_reducible refine (aV _ _ _ _).mono ?_);rintro e w' ⟨rfl,rfl⟩)) | fail);all_goals go_ret
          all_goals exact ⟨by rw [HV.out]<;>rfl,(KC.out _ (KA.out _ _ dI.out)).1⟩
         rcases Bool.eq_false_or_eq_true (bW rp 0 1000) with k1 | k1;rotate_left
         ·skip;have HV:=ah (show RES=1 by rw [HST.out];simp [k0,k1]);go_wp2_with (first | (go_at_call 18;((with_reducible refine (fU _ _).mono ?_);rintro e w' ⟨rfl,rfl⟩)) | (go_at_call 31;((with_reducible refine (aV _ _ _ _).mono ?_);rintro e w' ⟨rfl,rfl⟩)) | fail);all_goals go_ret
          all_goals exact ⟨by rw [HV.out]<;>rfl,(KC.out _ (KA.out _ _ dI.out)).1⟩
         by_cases h0:k=0
         ·subst h0;simp only [Nat.zero_mul,Nat.add_zero,Nat.zero_add] at d0 d1;have vT:=ah (show RES=rF aB (nu aJ (0+1)) (aJ.drop (0+1)) by rw [HST.out];simp [k0,k1,nu]);go_wp2_with (first | (go_at_call 18;((with_reducible refine (fU _ _).mono ?_);rintro e w' ⟨rfl,rfl⟩)) | (go_at_call 31;((with_reducible refine (aV _ _ _ _).mono ?_);rintro e w' ⟨rfl,rfl⟩)) | fail);go_quiet (fail)
          go_wp2_with fail;go_roundw
          case rel=>exact ⟨1,by omega,rfl,vT,ah (dz (KA.out _ _ dI.out) _)⟩
          case measure=>simp [intOf];omega
         ·have HPP:=ah (NW.out (by omega));have d2:=vS.out (by omega) _ pU.out;clear NW vS;generalize (aJ[k-1]'(by omega))=rj at *;obtain ⟨jt,jp⟩:=rj;simp only at d2;obtain ⟨j,rfl⟩:∃j,k=j+1:=⟨k-1,by omega⟩;simp only [Nat.add_sub_cancel] at d2;have hji:((j+1:Nat):Int)-1=(j:Int):=by omega
          by_cases hle:rt≤jt
          ·skip;have HV:=ah (show RES=7 by rw [HST.out,HPP.out];simp [k0,k1,hle]);go_wp2_with (first | (go_at_call 18;((with_reducible refine (fU _ _).mono ?_);rintro e w' ⟨rfl,rfl⟩)) | (go_at_call 31;((with_reducible refine (aV _ _ _ _).mono ?_);rintro e w' ⟨rfl,rfl⟩)) | fail);go_quiet (fail)
           go_wp2_with fail;go_ret;exact ⟨by rw [HV.out]<;>rfl,dz (KC.out _ (KA.out _ _ dI.out)).1 _⟩
          ·have vT:=ah (show RES=rF aB (nu aJ (j+1+1)) (aJ.drop (j+1+1)) by rw [HST.out,HPP.out];simp [k0,k1,hle]);have Qw:decide (rt≤jt)=false:=by simpa using hle
           go_wp2_with (first | (go_at_call 18;((with_reducible refine (fU _ _).mono ?_);rintro e w' ⟨rfl,rfl⟩)) | (go_at_call 31;((with_reducible refine (aV _ _ _ _).mono ?_);rintro e w' ⟨rfl,rfl⟩)) | fail);go_quiet (fail)
           go_wp2_with fail;go_roundw
           case rel=>exact ⟨j+1+1,by omega,by go_num,vT,ah (dz (KA.out _ _ dI.out) _)⟩
           case measure=>simp [intOf];omega
        ·have HV:=ah (show RES=0 by rw [gW.out,List.drop_of_length_le (by omega)];rfl);have pU:=ah hB3;clear hB3;go_wp2_with (first | (go_at_call 18;((with_reducible refine (fU _ _).mono ?_);rintro e w' ⟨rfl,rfl⟩)) | (go_at_call 31;((with_reducible refine (aV _ _ _ _).mono ?_);rintro e w' ⟨rfl,rfl⟩)) | fail);go_ret;exact ⟨by rw [HV.out]<;>rfl,pU.out⟩
end Go.Proofs.YtopmdeefcjdadaaGreat
