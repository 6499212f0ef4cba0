import Derived.Test.YtopmdeefcjdadaaGreatT42M00
import Derived.Test.YtopmdeefcjdadaaGreatT42M20
import Derived.Deep.QuietTactic
import Derived.BigQuiet
set_option linter.unusedVariables false
set_option linter.unusedSimpArgs false
set_option maxRecDepth 100000
set_option maxHeartbeats 32000000
namespace Go.Proofs.YtopmdeefcjdadaaGreat
open Go.RowKit
def Fit (n:Nat):Prop:=n<BB ^ 20
theorem Fit.len {n L:Nat} (h:Fit n) (hl:fT n L):L≤20:=rY hl h
theorem Fit.le {n m:Nat} (h:Fit m) (hl:n≤m):Fit n:=Nat.lt_of_le_of_lt hl h
theorem NA {n m k:Nat} (h1:n<BB ^ k) (h2:m<BB ^ k):eG n m (k+1)=0:=by
 unfold eG;have e:BB ^ (k+1)=BB*BB ^ k:=Nat.pow_succ';have h3:2*BB ^ k≤BB*BB ^ k:=Nat.mul_le_mul_right _ (by decide);have a1:n % BB ^ (k+1)≤n:=Nat.mod_le _ _;have a2:m % BB ^ (k+1)≤m:=Nat.mod_le _ _;exact Nat.div_eq_of_lt (by omega)
theorem PD {n m k:Nat} (h1:n<BB ^ k) (h2:m<BB ^ k) (h:eG n m k=0):n+m<BB ^ k:=by
 have:=vo n m k;rw [h,Nat.div_eq_of_lt h1,Nat.div_eq_of_lt h2] at this;exact (Nat.div_eq_zero_iff_lt (pQ k)).1 (by omega)
theorem iU {n L k:Nat} (h:n<BB ^ L) (hk:L≤k):n<BB ^ k:=Nat.lt_of_lt_of_le h (rQ hk)
theorem o7 {s d:Nat} {x:Int} (hx:x=(s:Nat)) (h:d=s % BB):Value.int .i64 (x % 1000000000)=Value.int .i64 (d:Nat):=by
 subst hx h;unfold BB;exact congrArg _ (by omega)
theorem tK {s c:Nat} {x:Int} (hx:x=(s:Nat)) (h:c=s / BB):Value.int .i64 (x / 1000000000)=Value.int .i64 (c:Nat):=by
 subst hx h;unfold BB;exact congrArg _ (by omega)
theorem gU {n k:Nat} {u:Value} (h:u=.int .i64 (dg n k:Nat)):bI n k++[u]=bI n (k+1):=by rw [sw,h]
theorem gV {B:Nat} {w wr w2:World} {v:Value} {e n:Nat} {xs:List Value} {o:Obj} (hb:Below B w wr) (ho:wr.ownsRow B e 1 v n xs) (hg:(wr.alloc o).grownBy w2 v.ownBlock) (hs:B≤wr.heap.size):Below B w w2:=
 (hb.alloc hs o).grown hg (by simp;omega) fun k hk=>(ho.lt k hk).1
theorem fZ (n i:Nat):((dg n i:Nat):Int)≤999999999:=by
 have:=nH n i;unfold BB at this;omega
theorem ME (B n m:Nat) (v u:Value) (w:World) (hB:B≤w.heap.size) (fn:Fit n) (fm:Fit m) (hv:gP B w v n) (hu:gP B w u m):Calls Tryz.prog 79 #[v,u] w (NR w.heap.size (n+m) w):=by
 obtain ⟨L,hL,ao,cap,rfl,c1,c2,hn,hx⟩:=hv;obtain ⟨M,hM,bo,dap,rfl,d1,d2,hm,hy⟩:=hu;have hl:=fn.len hL;have hml:=fm.len hM;have HX:=ah hx;have HY:=ah hy;have Hn:=ah hn;have Hm:=ah hm;clear hx hy hn hm hL hM fn fm;obtain ⟨i0,hi,hz0,hz1,hz2⟩:=info_parts lT;have Hi:=ah hi;have Bu:=ah hz0;have Bt:=ah hz1;have Br:=ah hz2;clear hi hz0 hz1 hz2;go_enter Tryz.func79,Tryz.ntmps79;go_wp2
 go_loopw [5,6,7] (fun o c i wr=>∃k:Nat,k≤max L M+1∧i=.int .i64 k∧c=.int .i64 (eG n m k:Nat)∧wr.ownsRow w.heap.size 3 1 o k (bI (n+m) k)∧Below w.heap.size w wr) (fun _ _ i _=>max L M+2-(intOf i).toNat)
 case atStart=>exact ⟨0,by omega,rfl,by rw [yA];rfl,by simpa [bI] using World.ownsRow_nil _ _ _ _,Below.refl _ _⟩
 case round=>
  rename_i wr
  obtain ⟨k,hk,rfl,rfl,hown,hb⟩:=hrel;have HO:=ah hown;have HB:=ah hb;have hsz:=hb.size;have HD:=ah (DK n m k);have HC:=ah (uH n m k);have HE:=ah (fun (h1:L≤k) (h2:M≤k) (h:eG n m k=0)=>PD (iU Hn.out h1) (iU Hm.out h2) h);have HF:=ah (fun e:k=max L M+1=>(show eG n m k=0 by rw [e];exact NA (iU Hn.out (Nat.le_max_left _ _)) (iU Hm.out (Nat.le_max_right _ _))));have HN0:=ah (fun h:L≤k=>bV (iU Hn.out h));have yV:=ah (fun h:M≤k=>bV (iU Hm.out h));have hc1:=xI n m k;have Hl:=fZ n k;have Hg:=fZ m k;obtain ⟨Ry,cap2,rfl⟩:=bK hown;generalize hcn:eG n m (k+1)=cn at *;have vU:=ah hcn;generalize eG n m k=c at *;clear hown hb hcn;by_cases hkL:k<L
  ·obtain ⟨b,off,rfl,hbb,hcx⟩:=HX.out (by omega);have hcx':=(HB.out.cell (p:=⟨b,off+k,none⟩) (Nat.lt_of_lt_of_le hbb hB)).trans (hcx k hkL);clear hcx;generalize dg n k=x at *;by_cases hkM:k<M
   ·obtain ⟨b',off',rfl,hbb',hcy⟩:=HY.out (by omega);have hcy':=(HB.out.cell (p:=⟨b',off'+k,none⟩) (Nat.lt_of_lt_of_le hbb' hB)).trans (hcy k hkM);clear hcy;generalize dg m k=y at *;clear HE HF HN0 yV;have HD2:=ah (show Value.int .i64 (((c:Int)+(x:Int)+(y:Int)) % 1000000000)=.int .i64 (dg (n+m) k:Nat) from o7 (s:=c+x+y) (by omega) HD.out);have J4:=ah (show Value.int .i64 (((c:Int)+(x:Int)+(y:Int)) / 1000000000)=.int .i64 (cn:Nat) from tK (s:=c+x+y) (by omega) HC.out);clear HD HC;go_wp2_with (at_builtin;refine wpList_append_own _ rfl _ _ 97 rfl w.heap.size 3 i0 (.int .i64 0) 1 8 Tryz.underlying97 Hi.out Bu.out Bt.out Br.out rfl (by decide) _ _ _ rfl (HO.out.alloc _) ⟨wr.heap.size,0,none⟩ 1 1 [.int .i64 (((c:Int)+(x:Int)+(y:Int)) % 1000000000)] rfl rfl (jK _ _ _ _) (jM _) (by unfold maxLen;omega) (by omega) (by simp;omega) ?_);all_goals intro v' w2 hown2 hgrow _
    all_goals rw [gU HD2.out] at hown2
    all_goals have HB2:=ah (gV HB.out HO.out hgrow hsz)
    all_goals obtain ⟨Ej,nI,rfl⟩:=bK hown2
    all_goals have nT:=ah hown2
    all_goals clear hown2 hgrow HO HB HD2
    all_goals go_wp2
    all_goals go_roundw
    all_goals (first | exact ⟨k+1,by omega,by go_num,by rw [vU.out];exact J4.out,nT.out,HB2.out⟩ | (simp [intOf];omega))
   ·have hy0:=yV.out (by omega);rw [hy0] at HD HC;clear HE HF HN0 yV hy0 Hg;have HD2:=ah (show Value.int .i64 (((c:Int)+(x:Int)) % 1000000000)=.int .i64 (dg (n+m) k:Nat) from o7 (s:=c+x+0) (by omega) HD.out);have J4:=ah (show Value.int .i64 (((c:Int)+(x:Int)) / 1000000000)=.int .i64 (cn:Nat) from tK (s:=c+x+0) (by omega) HC.out);clear HD HC;go_wp2_with (at_builtin;refine wpList_append_own _ rfl _ _ 97 rfl w.heap.size 3 i0 (.int .i64 0) 1 8 Tryz.underlying97 Hi.out Bu.out Bt.out Br.out rfl (by decide) _ _ _ rfl (HO.out.alloc _) ⟨wr.heap.size,0,none⟩ 1 1 [.int .i64 (((c:Int)+(x:Int)) % 1000000000)] rfl rfl (jK _ _ _ _) (jM _) (by unfold maxLen;omega) (by omega) (by simp;omega) ?_);all_goals intro v' w2 hown2 hgrow _
    all_goals rw [gU HD2.out] at hown2
    all_goals have HB2:=ah (gV HB.out HO.out hgrow hsz)
    all_goals obtain ⟨Ej,nI,rfl⟩:=bK hown2
    all_goals have nT:=ah hown2
    all_goals clear hown2 hgrow HO HB HD2
    all_goals go_wp2
    all_goals go_roundw
    all_goals (first | exact ⟨k+1,by omega,by go_num,by rw [vU.out];exact J4.out,nT.out,HB2.out⟩ | (simp [intOf];omega))
  ·have hx0:=HN0.out (by omega);rw [hx0] at HD HC;clear Hl;by_cases hkM:k<M
   ·obtain ⟨b',off',rfl,hbb',hcy⟩:=HY.out (by omega);have hcy':=(HB.out.cell (p:=⟨b',off'+k,none⟩) (Nat.lt_of_lt_of_le hbb' hB)).trans (hcy k hkM);clear hcy;generalize dg m k=y at *;clear HE HF HN0 yV hx0;have HD2:=ah (show Value.int .i64 (((c:Int)+(y:Int)) % 1000000000)=.int .i64 (dg (n+m) k:Nat) from o7 (s:=c+0+y) (by omega) HD.out);have J4:=ah (show Value.int .i64 (((c:Int)+(y:Int)) / 1000000000)=.int .i64 (cn:Nat) from tK (s:=c+0+y) (by omega) HC.out);clear HD HC;go_wp2_with (at_builtin;refine wpList_append_own _ rfl _ _ 97 rfl w.heap.size 3 i0 (.int .i64 0) 1 8 Tryz.underlying97 Hi.out Bu.out Bt.out Br.out rfl (by decide) _ _ _ rfl (HO.out.alloc _) ⟨wr.heap.size,0,none⟩ 1 1 [.int .i64 (((c:Int)+(y:Int)) % 1000000000)] rfl rfl (jK _ _ _ _) (jM _) (by unfold maxLen;omega) (by omega) (by simp;omega) ?_);all_goals intro v' w2 hown2 hgrow _
    all_goals rw [gU HD2.out] at hown2
    all_goals have HB2:=ah (gV HB.out HO.out hgrow hsz)
    all_goals obtain ⟨Ej,nI,rfl⟩:=bK hown2
    all_goals have nT:=ah hown2
    all_goals clear hown2 hgrow HO HB HD2
    all_goals go_wp2
    all_goals go_roundw
    all_goals (first | exact ⟨k+1,by omega,by go_num,by rw [vU.out];exact J4.out,nT.out,HB2.out⟩ | (simp [intOf];omega))
   ·have hy0:=yV.out (by omega);rw [hy0] at HD HC;clear Hg;by_cases hc0:c=0
    ·have HL:=ah (HE.out (by omega) (by omega) hc0);subst hc0;clear HE HF HN0 yV hx0 hy0 HD HC vU;go_wp2_with (go_at_call 99;refine (mY _ _ _ _ _ HO.out HL.out).mono ?_;rintro e w' ⟨⟨v',L',rfl,hl',ho'⟩,rfl⟩)
     all_goals
      have HO':=ah ho';have HL':=ah hl';clear ho' hl';go_wp2
      go_ret;exact ⟨_,_,rfl,HL'.out,HO'.out,HB.out⟩
    ·have hk1:k≤max L M:=by
      by_cases e:k=max L M+1
      ·exact absurd (HF.out e) hc0
      ·omega
     obtain rfl:c=1:=by omega
     clear HE HF HN0 yV hx0 hy0 hc0;have HD2:=ah (show Value.int .i64 1=.int .i64 (dg (n+m) k:Nat) from by rw [HD.out];rfl);have J4:=ah (show Value.int .i64 0=.int .i64 (cn:Nat) from by rw [HC.out];rfl);clear HD HC;go_wp2_with (at_builtin;refine wpList_append_own _ rfl _ _ 97 rfl w.heap.size 3 i0 (.int .i64 0) 1 8 Tryz.underlying97 Hi.out Bu.out Bt.out Br.out rfl (by decide) _ _ _ rfl (HO.out.alloc _) ⟨wr.heap.size,0,none⟩ 1 1 [.int .i64 1] rfl rfl (jK _ _ _ _) (jM _) (by unfold maxLen;omega) (by omega) (by simp;omega) ?_);all_goals intro v' w2 hown2 hgrow _
     all_goals rw [gU HD2.out] at hown2
     all_goals have HB2:=ah (gV HB.out HO.out hgrow hsz)
     all_goals obtain ⟨Ej,nI,rfl⟩:=bK hown2
     all_goals have nT:=ah hown2
     all_goals clear hown2 hgrow HO HB HD2
     all_goals go_wp2
     all_goals go_roundw
     all_goals (first | exact ⟨k+1,by omega,by go_num,by rw [vU.out];exact J4.out,nT.out,HB2.out⟩ | (simp [intOf];omega))
def wV (n m:Nat):Int:=if n<m then -1 else if m<n then 1 else 0
theorem vE {n m L M:Nat} (h:fT n L) (k:fT m M) (hl:L<M):n<m:=by
 have h1:=k.2 (by omega);have h2:BB ^ L≤BB ^ (M-1):=Nat.pow_le_pow_right nN (by omega);have:=h.1;omega
theorem tq {n m:Nat} (h:n<m):wV n m=-1:=if_pos h
theorem Cb {n m:Nat} (h:m<n):wV n m=1:=by unfold wV;rw [if_neg (by omega),if_pos h]
theorem Mx (n:Nat):wV n n=0:=by unfold wV;rw [if_neg (by omega),if_neg (by omega)]
theorem Pq {n m i:Nat} (h:qN n i<qN m i):n<m:=by
 unfold qN at h;by_cases hlt:n<m
 ·exact hlt
 ·have:=Nat.div_le_div_right (c:=BB ^ i) (Nat.le_of_not_lt hlt);omega
theorem FJ {n m i:Nat} (h:qN n (i+1)=qN m (i+1)) (hd:dg n i<dg m i):n<m:=by
 have h1:=kF n i;have h2:=kF m i;rw [h] at h1;exact Pq (i:=i) (by omega)
theorem PG {n m i:Nat} (h:qN n (i+1)=qN m (i+1)) (hd:dg n i=dg m i):qN n i=qN m i:=by
 rw [kF n i,kF m i,h,hd]
theorem ord_end {n m:Nat} (h:qN n 0=qN m 0):n=m:=by rwa [vk,vk] at h
def OrdP (n m:Nat) (w:World) (e:Ending) (w':World):Prop:=e=.returned (.int .i64 (wV n m))∧Below w.heap.size w w'
theorem Mw (B n m:Nat) (v u:Value) (w:World) (hB:B≤w.heap.size) (hv:gP B w v n) (hu:gP B w u m):Calls Tryz.prog 81 #[v,u] w (OrdP n m w):=by
 obtain ⟨L,hL,ao,cap,rfl,c1,c2,hn,hx⟩:=hv;obtain ⟨M,hM,bo,dap,rfl,d1,d2,hm,hy⟩:=hu;have HX:=ah hx;have HY:=ah hy;have HT:=ah (fun e:L=M=>(wR hn).trans (wR (e▸hm)).symm);have HL:=ah (fun e:L<M=>tq (vE hL hM e));have HM:=ah (fun e:M<L=>Cb (vE hM hL e));clear hx hy hn hm hL hM;by_cases hlt:L<M
 ·have hv:=HL.out hlt;unfold OrdP;rw [hv];clear HL HM HT hv;go_enter Tryz.func81,Tryz.ntmps81;go_wp2
  go_ret;exact ⟨rfl,Below.refl _ _⟩
 ·by_cases hgt:M<L
  ·have hv:=HM.out hgt;unfold OrdP;rw [hv];clear HL HM HT hv;go_enter Tryz.func81,Tryz.ntmps81;go_wp2
   go_ret;exact ⟨rfl,Below.refl _ _⟩
  ·obtain rfl:L=M:=by omega
   have HT2:=ah (HT.out rfl);clear HL HM HT hlt hgt;go_enter Tryz.func81,Tryz.ntmps81;go_wp2
   go_loopw [5] (fun x wr=>∃i:Nat,i≤L∧x=.int .i64 ((i:Int)-1)∧Hid (qN n i=qN m i)∧Below w.heap.size w wr) (fun x _=>(intOf x+1).toNat)
   case atStart=>exact ⟨L,Nat.le_refl _,by go_num,HT2,Below.refl _ _⟩
   case round=>
    rename_i wr
    obtain ⟨i,hi,rfl,hq,hbw⟩:=hrel;have HW:=ah hbw;by_cases h0:i=0
    ·subst h0;have HE:=ah (show wV n m=0 by rw [ord_end hq.out];exact Mx m);go_wp2
     go_ret;exact ⟨by rw [HE.out];rfl,by first | exact HW.out | exact HW.out.drew | exact HW.out.drew.drew⟩
    ·obtain ⟨i,rfl⟩:∃j,i=j+1:=⟨i-1,by omega⟩;obtain ⟨b,off,rfl,hb,hc⟩:=HX.out (by omega);obtain ⟨b',off',rfl,hb',hc'⟩:=HY.out (by omega);have h1:=(hbw.cell (p:=⟨b,off+i,none⟩) (Nat.lt_of_lt_of_le hb hB)).trans (hc i (by omega));have h2:=(hbw.cell (p:=⟨b',off'+i,none⟩) (Nat.lt_of_lt_of_le hb' hB)).trans (hc' i (by omega));clear hbw;have e1:((i+1:Nat):Int)-1=(i:Nat):=by omega
     rw [e1];have HA:=ah (fun h:dg n i<dg m i=>tq (FJ hq.out h));have HB:=ah (fun h:dg m i<dg n i=>Cb (FJ hq.out.symm h));have HC:=ah (fun h:dg n i=dg m i=>PG hq.out h);clear hc hc' hq e1;generalize dg n i=x at *;generalize dg m i=y at *;by_cases hxy:x=y
     ·subst hxy;have J4:=ah (HC.out rfl);clear HA HB HC;go_wp2_with go_region;all_goals go_roundw
      all_goals (first | exact ⟨i,by omega,by go_num,J4,by first | exact HW.out | exact HW.out.drew⟩ | (simp [intOf];done) | (simp [intOf];omega))
     ·by_cases hl:x<y
      ·have HE:=ah (HA.out hl);clear HA HB HC;go_wp2_with go_region;all_goals go_ret
       all_goals exact ⟨by rw [HE.out];rfl,by first | exact HW.out | exact HW.out.drew | exact HW.out.drew.drew⟩
      ·have HE:=ah (HB.out (by omega));clear HA HB HC;go_wp2_with go_region;all_goals go_ret
       all_goals exact ⟨by rw [HE.out];rfl,by first | exact HW.out | exact HW.out.drew | exact HW.out.drew.drew⟩
def dw (A B j L:Nat):List Value:=(List.range L).map fun i=>.int .i64 (FZ A B j i:Nat)
theorem nA (A B j L:Nat):(dw A B j L).length=L:=by simp [dw]
theorem lq {A B j L i:Nat} (h:i<L):(dw A B j L)[i]?=some (.int .i64 (FZ A B j i:Nat)):=by simp [dw,h]
theorem MO {A B j L:Nat} (h:j<L):(dw A B j L).set j (.int .i64 (dg A j:Nat))=dw A B (j+1) L:=by
 apply List.ext_getElem?;intro i;rw [List.getElem?_set];by_cases hi:i<L
 ·rw [lq hi,nA];by_cases e:j=i
  ·subst e;rw [if_pos rfl,if_pos hi,lq hi,kI (by omega)]
  ·rw [if_neg e,lq hi];unfold FZ;by_cases h2:i<j
   ·rw [if_pos h2,if_pos (by omega)]
   ·rw [if_neg h2,if_neg (by omega)]
 ·have h1:∀j,(dw A B j L)[i]?=none:=fun j=>List.getElem?_eq_none (by rw [nA];omega);rw [h1,h1];rw [if_neg (by omega)]
theorem rV {A B j L:Nat} (h:j<L):(dw A B (j+1) L).set j (.int .i64 (dg B j:Nat))=dw A B j L:=by
 apply List.ext_getElem?;intro i;rw [List.getElem?_set];by_cases hi:i<L
 ·rw [lq hi,nA];by_cases e:j=i
  ·subst e;rw [if_pos rfl,if_pos hi,lq hi,gG (by omega)]
  ·rw [if_neg e,lq hi];unfold FZ;by_cases h2:i<j
   ·rw [if_pos h2,if_pos (by omega)]
   ·rw [if_neg h2,if_neg (by omega)]
 ·have h1:∀j,(dw A B j L)[i]?=none:=fun j=>List.getElem?_eq_none (by rw [nA];omega);rw [h1,h1];rw [if_neg (by omega)]
theorem jW {A B j L C:Nat} (h:∀i,i<L→FZ A B j i=dg C i):dw A B j L=bI C L:=by
 unfold dw bI;exact List.map_congr_left fun i hi=>by rw [h i (List.mem_range.1 hi)]
theorem zZ {A B j L:Nat} (h:L≤j):dw A B j L=bI A L:=jW fun i hi=>kI (by omega)
theorem yt {A B L:Nat}:dw A B 0 L=bI B L:=jW fun i hi=>gG (by omega)
theorem xE {A L i:Nat} (h:i<L):(bI A L)[i]?=some (.int .i64 (dg A i:Nat)):=by simp [bI,h]
def Row (base:Nat) (w:World) (g T cap:Nat) (xs:List Value):Prop:=w.ownsRow base 3 1 (.slice (some ⟨g,0,none⟩) T cap) T xs
theorem Row.at {base g T cap A B j i:Nat} {w:World} (h:Row base w g T cap (dw A B j T)) (hi:i<T):w.cell? ⟨g,i,none⟩=some (.int .i64 (FZ A B j i:Nat)):=
 (World.ownsRow.cellAt h i (by omega)).trans (lq hi)
theorem Row.atD {base g T cap A i:Nat} {w:World} (h:Row base w g T cap (bI A T)) (hi:i<T):w.cell? ⟨g,i,none⟩=some (.int .i64 (dg A i:Nat)):=
 (World.ownsRow.cellAt h i (by omega)).trans (xE hi)
theorem Row.free {base g T cap:Nat} {w:World} {xs:List Value} (h:Row base w g T cap xs) (i:Nat):w.frozen? ⟨g,i,none⟩=false:=World.ownsRow.frozenAt h i
theorem Row.up {base g T cap A B j:Nat} {w:World} (h:Row base w g T cap (dw A B j T)) (hj:j<T):Row base (w.setCell ⟨g,j,none⟩ (.int .i64 (dg A j:Nat))) g T cap (dw A B (j+1) T):=by
 have:=(World.ownsRow.stored h j (.int .i64 (dg A j:Nat))).1;rwa [MO hj] at this
theorem Row.down {base g T cap A B j:Nat} {w:World} (h:Row base w g T cap (dw A B (j+1) T)) (hj:j<T):Row base (w.setCell ⟨g,j,none⟩ (.int .i64 (dg B j:Nat))) g T cap (dw A B j T):=by
 have:=(World.ownsRow.stored h j (.int .i64 (dg B j:Nat))).1;rwa [rV hj] at this
theorem Row.block {base g T cap:Nat} {w:World} {xs:List Value} (h:Row base w g T cap xs):base≤g∧g<w.heap.size:=World.ownsRow.lt h g rfl
theorem Row.drawn {base g T cap n:Nat} {w:World} {xs:List Value} (h:Row base w g T cap xs):Row base (w.drewN n) g T cap xs:=h
theorem sj (T:Nat):List.replicate T (Value.int .i64 0)=bI 0 T:=by
 apply List.ext_getElem?;intro i;by_cases hi:i<T
 ·rw [xE hi];simp [hi,dg]
 ·rw [List.getElem?_eq_none (by simp;omega),List.getElem?_eq_none (by rw [Jv];omega)]
theorem below_drewN {B n:Nat} {a w:World} (h:Below B a w):Below B a (w.drewN n):=⟨h.os,h.tape,h.output,h.size,h.block⟩
theorem lD (w:World) (g i:Nat) (u:Value):w.grownBy (w.setCell ⟨g,i,none⟩ u) (some g):=
 ⟨rfl,rfl,rfl,by simp,fun k _ hk=>heap_setCell_other w ⟨g,i,none⟩ k u (fun e=>hk (by simp [e]))⟩
theorem jw {w w1 w2:World} {r:Option Nat} (h:w.grownBy w1 r) (k:w1.grownBy w2 r):w.grownBy w2 r:=
 ⟨k.os.trans h.os,k.tape.trans h.tape,k.output.trans h.output,Nat.le_trans h.size k.size,fun j hj hn=>(k.block j (Nat.lt_of_lt_of_le hj h.size) hn).trans (h.block j hj hn)⟩
theorem og {w w':World} {r:Option Nat} (h:w.grownBy w' r) {b o:Nat} (hb:b<w.heap.size) (hn:some b≠r):w'.cell? ⟨b,o,none⟩=w.cell? ⟨b,o,none⟩:=World.cell?_of_block (a:=⟨b,o,none⟩) (h.block b hb hn)
def iX (n m i:Nat):Nat:=n % BB ^ i*m
theorem Lm (n m:Nat):iX n m 0=0:=by simp [iX,Nat.mod_one]
theorem OU {n m L:Nat} (h:n<BB ^ L):iX n m L=n*m:=by unfold iX;rw [Nat.mod_eq_of_lt h]
theorem wm (n m i:Nat):iX n m (i+1)=iX n m i+dg n i*m*BB ^ i:=Pn n m i
theorem EO {n m M i:Nat} (hm:m<BB ^ M):iX n m i / BB ^ i<BB ^ M:=low_lt hm
theorem timS_dg (n m i k:Nat):dg (iX n m (i+1)) (i+k)=(dg (iX n m i) (i+k)+mq (iX n m i / BB ^ i) m (dg n i) k+dg n i*dg m k) % BB:=by
 rw [wm,Cv,KO,oH]
theorem Ie (n m i k:Nat):mq (iX n m i / BB ^ i) m (dg n i) (k+1)=(dg (iX n m i) (i+k)+mq (iX n m i / BB ^ i) m (dg n i) k+dg n i*dg m k) / BB:=by
 rw [xQ,oH]
theorem OT {n m M i k T:Nat} (hm:m<BB ^ M) (hk:M≤k) (hc:mq (iX n m i / BB ^ i) m (dg n i) k=0):dw (iX n m (i+1)) (iX n m i) (i+k) T=bI (iX n m (i+1)) T:=by
 refine jW fun p hp=>?_;by_cases h:p<i+k
 ·exact kI h
 ·rw [gG (by omega)];have h1:iX n m i / BB ^ i<BB ^ k:=Nat.lt_of_lt_of_le (EO hm) (rQ hk);have h2:=KN h1 (Nat.lt_of_lt_of_le hm (rQ hk)) hc;obtain ⟨q,rfl⟩:∃q,p=i+q:=⟨p-i,by omega⟩;rw [wm,Cv,bV (Nat.lt_of_lt_of_le h2 (rQ (by omega))),←oH,bV (Nat.lt_of_lt_of_le h1 (rQ (by omega)))]
theorem Ic {n m i T:Nat}:dw (iX n m (i+1)) (iX n m i) i T=bI (iX n m i) T:=by
 refine jW fun p hp=>?_;by_cases h:p<i
 ·rw [kI h,wm,Gr _ _ _ _ h]
 ·exact gG (by omega)
theorem timS_lt {n m L M:Nat} (hn:n<BB ^ L) (hm:m<BB ^ M):n*m<BB ^ (L+M+1):=by
 have h1:n*m≤BB ^ L*BB ^ M:=Nat.mul_le_mul (Nat.le_of_lt hn) (Nat.le_of_lt hm);rw [←Nat.pow_add] at h1;have h2:BB ^ (L+M)<BB ^ (L+M+1):=Nat.pow_lt_pow_right (by decide) (by omega);omega
theorem Kr {x y:Nat} (hx:(x:Int)≤999999999) (hy:(y:Int)≤999999999):x*y≤999999998000000001:=by
 have h1:x≤999999999:=by omega
 have h2:y≤999999999:=by omega
 exact Nat.mul_le_mul h1 h2
theorem tim_sum {o c x y:Nat} (ho:(o:Int)≤999999999) (hc:c≤x) (hx:(x:Int)≤999999999) (hy:(y:Int)≤999999999):wrap64 ((o:Int)+(c:Int)+wrap64 ((x:Int)*(y:Int)))=((o+c+x*y:Nat):Int):=by
 have h:=Kr hx hy;rw [←Int.natCast_mul];generalize x*y=p at *;have h1:wrap64 (p:Int)=(p:Int):=IntWalk.wrap64_in _ ⟨by omega,by omega⟩;rw [h1,IntWalk.wrap64_in _ ⟨by omega,by omega⟩];omega
theorem dig_mod {S d:Nat} (h:d=S % BB):Int.tmod (S:Int) 1000000000=(d:Int):=by
 rw [h];unfold BB;exact ze S 1000000000
theorem dig_div {S d:Nat} (h:d=S / BB):Int.tdiv (S:Int) 1000000000=(d:Int):=by
 rw [h];unfold BB;exact zk S 1000000000
theorem Am {S d:Nat} (h:d=S % BB):(S:Int) % 1000000000=(d:Int):=by
 rw [h];unfold BB;omega
theorem Ao {S d:Nat} (h:d=S / BB):(S:Int) / 1000000000=(d:Int):=by
 rw [h];unfold BB;omega
theorem Gx {o c x y cn:Nat} (ho:(o:Int)≤999999999) (hc:c≤x) (hx:(x:Int)≤999999999) (hy:(y:Int)≤999999999) (h:cn=(o+c+x*y) / BB):wrap64 (cn:Int)=(cn:Int):=by
 have h2:=Kr hx hy;unfold BB at h;exact IntWalk.wrap64_in _ ⟨by omega,by omega⟩
theorem jQ (B n m:Nat) (v u:Value) (w:World) (hB:B≤w.heap.size) (fn:Fit n) (fm:Fit m) (hv:gP B w v n) (hu:gP B w u m):Calls Tryz.prog 78 #[v,u] w (NR w.heap.size (n*m) w):=by
 obtain ⟨L,hL,ao,cap,rfl,c1,c2,hn,hx⟩:=hv;obtain ⟨M,hM,bo,dap,rfl,d1,d2,hm,hy⟩:=hu;have hl:=fn.len hL;have hml:=fm.len hM;have HX:=ah hx;have HY:=ah hy;have Hn:=ah hn;have Hm:=ah hm;clear hx hy hn hm hL hM fn fm;obtain ⟨i0,hi,hz0,hz1,hz2⟩:=info_parts lT;have Hi:=ah hi;have Bu:=ah hz0;have Bt:=ah hz1;have Br:=ah hz2;clear hi hz0 hz1 hz2;obtain ⟨T,hT⟩:∃T:Nat,T=L+M+1:=⟨_,rfl⟩;have HT:=ah hT;have hTi:(L:Int)+(M:Int)+1=(T:Int):=by omega
 clear hT;go_enter Tryz.func78,Tryz.ntmps78;go_wp2_with (at_make;refine wpList_make_full _ rfl _ _ 97 rfl w.heap.size 3 i0 (.int .i64 0) 1 Tryz.underlying97 Hi.out Bu.out Bt.out .i64 .i64 _ _ T rfl rfl ?c1 ?c2 ?c3 ?c4 (Nat.le_refl _) ?_)
 case c1=>rfl
 case c2=>rfl
 case c3=>rw [HT.out,Br.out];omega
 case c4=>rw [HT.out];unfold maxLen;omega
 intro w1 hown1 hg1;rw [toList_madeCells_one,sj] at hown1;have mO:=ah (show Row w.heap.size w1 w.heap.size T T (bI 0 T) from hown1);have HB1:=ah ((Below.refl w.heap.size w).grown hg1 (Nat.le_refl _) (by simp));clear hown1 hg1;go_wp2
 go_loopw [19] (fun t wr=>∃i:Nat,i≤L∧t=.int .i64 i∧Row w.heap.size wr w.heap.size T T (bI (iX n m i) T)∧Below w.heap.size w wr) (fun t _=>L-(intOf t).toNat)
 case atStart=>exact ⟨0,by omega,rfl,by rw [Lm];exact mO.out,HB1.out⟩
 case round=>
  rename_i wr
  obtain ⟨i,hi,rfl,hrow,hb⟩:=hrel;have HR:=ah hrow;have HB:=ah hb;clear hrow hb mO HB1;obtain ⟨wo,rfl⟩:∃wo:World,wo=wr:=⟨_,rfl⟩;by_cases hiL:i<L
  ·have HR2:=ah (show Row w.heap.size wo w.heap.size T T (dw (iX n m (i+1)) (iX n m i) (i+0) T) by show Row _ _ _ _ _ (dw _ _ i T);rw [Ic];exact HR.out);obtain ⟨b,off,rfl,hbb,hcx⟩:=HX.out (by omega);have qO:=ah (hcx i hiL);have Hl:=fZ n i;have EC:=nH n i;clear hcx HR;go_wp2
   go_loopw [7,8] (fun c kk wr=>∃k:Nat,k≤M+1∧kk=.int .i64 k∧c=.int .i64 (mq (iX n m i / BB ^ i) m (dg n i) k:Nat)∧Row w.heap.size wr w.heap.size T T (dw (iX n m (i+1)) (iX n m i) (i+k) T)∧Below w.heap.size w wr) (fun _ kk _=>M+2-(intOf kk).toNat)
   case atStart=>exact ⟨0,by omega,rfl,by rw [C8];rfl,HR2.out,HB.out⟩
   case round=>
    rename_i wr
    obtain ⟨k,hk,rfl,rfl,hrow,hb⟩:=hrel;have HR:=ah hrow;have HBr:=ah hb;have HD:=ah (timS_dg n m i k);have HC:=ah (Ie n m i k);have HE:=ah (fun (h:M≤k) (hc:mq (iX n m i / BB ^ i) m (dg n i) k=0)=>OT (T:=T) Hm.out h hc);have HF:=ah (fun e:k=M+1=>(show mq (iX n m i / BB ^ i) m (dg n i) k=0 by rw [e];exact RA (EO Hm.out) Hm.out (nH n i)));have yV:=ah (fun h:M≤k=>bV (iU Hm.out h));have uM:=Em (iX n m i / BB ^ i) m (dg n i) k;have ho9:=fZ (iX n m i) (i+k);have Hg:=fZ m k;have hcx:=(hb.cell (p:=⟨b,off+i,none⟩) (Nat.lt_of_lt_of_le hbb hB)).trans qO.out;clear hrow hb HR2;generalize hcn:mq (iX n m i / BB ^ i) m (dg n i) (k+1)=cn at *;have vU:=ah hcn;generalize mq (iX n m i / BB ^ i) m (dg n i) k=c at *;clear hcn;by_cases hkM:k<M
    ·obtain ⟨b',off',rfl,hbb',hcy⟩:=HY.out (by omega);have hcy':=(HBr.out.cell (p:=⟨b',off'+k,none⟩) (Nat.lt_of_lt_of_le hbb' hB)).trans (hcy k hkM);have QJ:i+k<T:=by omega
     have hco:=HR.out.at QJ;rw [gG (Nat.le_refl _)] at hco;have hfo:=HR.out.free (i+k);have hik:((i:Int)+(k:Int)).toNat=i+k:=by omega
     have hTlt:(i:Int)+(k:Int)<(T:Int):=by omega
     clear hcy HE HF yV;generalize dg (iX n m i) (i+k)=o at *;generalize hxx:dg n i=x at *;generalize hyy:dg m k=y at *;have HXX:=ah hxx;clear hxx hyy;go_wp2
     go_quiet (fail)
     go_wp2
     have E:=tim_sum ho9 uM Hl Hg;rw [E,dig_mod HD.out,dig_div HC.out,Gx ho9 uM Hl Hg HC.out];exact ⟨⟨k+1,by omega,by go_num,by rw [vU.out],HR.out.up QJ,(below_drewN HBr.out).setCell (Nat.le_refl _) _⟩,by simp [intOf];omega⟩
    ·by_cases hc0:c=0
     ·subst hc0;have Hr:=ah (HE.out (by omega) rfl);have HR2:=ah (show Row w.heap.size wr w.heap.size T T (bI (iX n m (i+1)) T) by rw [←Hr.out];exact HR.out);clear HE HF yV HD HC vU Hr HR;go_wp2
      go_roundw
      case rel=>exact ⟨i+1,by omega,by go_num,HR2.out,HBr.out⟩
      case measure=>simp [intOf];omega
     ·have hk1:k≤M:=by
       by_cases e:k=M+1
       ·exact absurd (HF.out e) hc0
       ·omega
      have QJ:i+k<T:=by have:=HT.out;omega
      have hco:=HR.out.at QJ;rw [gG (Nat.le_refl _)] at hco;have hfo:=HR.out.free (i+k);have hik:((i:Int)+(k:Int)).toNat=i+k:=by omega
      have hTlt:(i:Int)+(k:Int)<(T:Int):=by omega
      have hy0:=yV.out (by omega);rw [hy0] at HD HC;have hcp:0<(c:Int):=by omega
      have hcp9:(c:Int)≤999999999:=by omega
      clear HE HF yV hy0 Hg hc0;generalize dg (iX n m i) (i+k)=o at *;go_wp2
      have E:(o:Int)+(c:Int)=((o+c+dg n i*0:Nat):Int):=by rw [Nat.mul_zero];omega
      rw [E,Am HD.out,Ao HC.out];exact ⟨⟨k+1,by omega,by go_num,by rw [vU.out],HR.out.up QJ,HBr.out.setCell (Nat.le_refl _) _⟩,by simp [intOf];omega⟩
  ·obtain rfl:i=L:=by omega
   have HL:=ah (show n*m<BB ^ T by rw [HT.out];exact timS_lt Hn.out Hm.out);have HR3:=ah (show wo.ownsRow w.heap.size 3 1 (.slice (some ⟨w.heap.size,0,none⟩) T T) T (bI (n*m) T) by rw [←OU (m:=m) Hn.out];exact HR.out);clear HR;go_wp2_with (go_at_call 99;refine (mY _ _ _ _ _ HR3.out HL.out).mono ?_;rintro e w' ⟨⟨v',L',rfl,hl',ho'⟩,rfl⟩);have HO':=ah ho';have HL':=ah hl';clear ho' hl';go_wp2
   go_ret;exact ⟨_,_,rfl,HL'.out,HO'.out,HB.out⟩
def EY (a f k:Nat):Nat:=mq 0 a f k
theorem Pk (a f:Nat):EY a f 0=0:=C8 _ _ _
theorem Jt (k:Nat):dg 0 k=0:=by simp [dg]
theorem sc_dg (a f k:Nat):dg (f*a) k=(dg a k*f+EY a f k) % BB:=by
 have:=KO 0 a f k;rw [Nat.zero_add,Jt,Nat.zero_add,Nat.add_comm (mq 0 a f k),Nat.mul_comm f (dg a k)] at this;exact this
theorem Kk (a f k:Nat):EY a f (k+1)=(dg a k*f+EY a f k) / BB:=by
 have:=xQ 0 a f k;rw [Jt,Nat.zero_add,Nat.add_comm (mq 0 a f k),Nat.mul_comm f (dg a k)] at this;exact this
theorem sc_le (a f k:Nat):EY a f k≤f:=Em _ _ _ _
theorem sc_all {a f k:Nat} (ha:a<BB ^ k) (h:EY a f k=0):f*a<BB ^ k:=by
 have:=KN (T:=0) (pQ k) ha h;rwa [Nat.zero_add] at this
theorem prod_nat (x f:Nat) (hx:(x:Int)≤999999999) (hf:(f:Int)≤500000000):∃p:Nat,x*f=p∧(x:Int)*(f:Int)=(p:Int)∧(p:Int)≤999999999000000000:=by
 refine ⟨x*f,rfl,(Int.natCast_mul x f).symm,?_⟩;have h1:x≤999999999:=by omega
 have h2:f≤500000000:=by omega
 have:=Nat.mul_le_mul h1 h2;omega
theorem zy (B a f:Nat) (v:Value) (w:World) (hB:B≤w.heap.size) (fa:Fit a) (hf0:(0:Int)<(f:Int)) (hf1:(f:Int)≤500000000) (hv:gP B w v a):Calls Tryz.prog 109 #[v,.int .i64 f] w (NR w.heap.size (f*a) w):=by
 obtain ⟨L,hL,ao,cap,rfl,c1,c2,hn,hx⟩:=hv;have hl:=fa.len hL;have HX:=ah hx;have Hn:=ah hn;clear hx hn hL fa;obtain ⟨i0,hi,hz0,hz1,hz2⟩:=info_parts lT;have Hi:=ah hi;have Bu:=ah hz0;have Bt:=ah hz1;have Br:=ah hz2;clear hi hz0 hz1 hz2;go_enter Tryz.func109,Tryz.ntmps109;go_wp2
 go_loopw [5,6,11] (fun o c i wr=>∃k:Nat,k≤L∧i=.int .i64 k∧c=.int .i64 (EY a f k:Nat)∧wr.ownsRow w.heap.size 3 1 o k (bI (f*a) k)∧Below w.heap.size w wr) (fun _ _ i _=>L-(intOf i).toNat)
 case atStart=>exact ⟨0,by omega,rfl,by rw [Pk];rfl,by simpa [bI] using World.ownsRow_nil _ _ _ _,Below.refl _ _⟩
 case round=>
  rename_i wr
  obtain ⟨k,hk,rfl,rfl,hown,hb⟩:=hrel;have HO:=ah hown;have HB:=ah hb;have hsz:=hb.size;have HD:=ah (sc_dg a f k);have HC:=ah (Kk a f k);have uM:=sc_le a f k;have Hl:=fZ a k;obtain ⟨Ry,cap2,rfl⟩:=bK hown;by_cases hkL:k<L
  ·obtain ⟨b,off,rfl,hbb,hcx⟩:=HX.out (by omega);have hcx':=(HB.out.cell (p:=⟨b,off+k,none⟩) (Nat.lt_of_lt_of_le hbb hB)).trans (hcx k hkL);clear hcx hown hb;generalize hcn:EY a f (k+1)=cn at *;have vU:=ah hcn;generalize EY a f k=c at *;generalize dg a k=x at *;obtain ⟨p,hp0,hp,hp9⟩:=prod_nat x f Hl hf1;rw [hp0] at HD HC;have HD2:=ah (show Value.int .i64 (((p:Int)+(c:Int)) % 1000000000)=.int .i64 (dg (f*a) k:Nat) from o7 (s:=p+c) (by omega) HD.out);have J4:=ah (show Value.int .i64 (((p:Int)+(c:Int)) / 1000000000)=.int .i64 (cn:Nat) from tK (s:=p+c) (by omega) HC.out);clear HD HC hp0 hcn;go_wp2_with (at_builtin;refine wpList_append_own _ rfl _ _ 97 rfl w.heap.size 3 i0 (.int .i64 0) 1 8 Tryz.underlying97 Hi.out Bu.out Bt.out Br.out rfl (by decide) _ _ _ rfl (HO.out.alloc _) ⟨wr.heap.size,0,none⟩ 1 1 [.int .i64 (((p:Int)+(c:Int)) % 1000000000)] rfl rfl (jK _ _ _ _) (jM _) (by unfold maxLen;omega) (by omega) (by simp;omega) ?_);intro v' w2 hown2 hgrow _;rw [gU HD2.out] at hown2;have HB2:=ah (gV HB.out HO.out hgrow hsz);obtain ⟨Ej,nI,rfl⟩:=bK hown2;have nT:=ah hown2;clear hown2 hgrow HO HB HD2;go_wp2
   go_roundw
   case rel=>exact ⟨k+1,by omega,by go_num,by rw [vU.out];exact J4.out,nT.out,HB2.out⟩
   case measure=>simp [intOf];omega
  ·obtain rfl:k=L:=by omega
   clear HD HC Hl hown hb;obtain ⟨wo,rfl⟩:∃wo:World,wo=wr:=⟨_,rfl⟩;go_wp2
   go_loopw [5,6] (fun o c wr=>∃t:Nat,t≤1∧c=.int .i64 (EY a f (k+t):Nat)∧Hid (t=1→EY a f (k+t)=0)∧wr.ownsRow w.heap.size 3 1 o (k+t) (bI (f*a) (k+t))∧Below w.heap.size w wr) (fun _ c _=>(intOf c).toNat)
   case atStart=>exact ⟨0,by omega,rfl,ah (by omega),HO.out,HB.out⟩
   case round=>
    obtain ⟨t,ht,rfl,hz,hown,hb⟩:=hrel;have Ew:=ah hown;have HB3:=ah hb;have hsz3:=hb.size;have HD:=ah (sc_dg a f (k+t));have HC:=ah (Kk a f (k+t));have HN0:=ah (show dg a (k+t)=0 from bV (iU Hn.out (by omega)));have HE:=ah (fun h=>sc_all (f:=f) (iU Hn.out (show k≤k+t by omega)) h);have uM:=sc_le a f (k+t);obtain ⟨Ej,nI,rfl⟩:=bK hown;rw [HN0.out,Nat.zero_mul,Nat.zero_add] at HD HC;clear hown hb HO HB;by_cases hc0:EY a f (k+t)=0
    ·have HL:=ah (HE.out hc0);rw [hc0];clear HD HC hz HE;go_wp2_with (go_at_call 99;refine (mY _ _ _ _ _ Ew.out HL.out).mono ?_;rintro e w' ⟨⟨v',L',rfl,hl',ho'⟩,rfl⟩);have HO':=ah ho';have HL':=ah hl';clear ho' hl';go_wp2
     go_ret;exact ⟨_,_,rfl,HL'.out,HO'.out,HB3.out⟩
    ·obtain rfl:t=0:=by
      by_cases h:t=1
      ·exact absurd (hz.out h) hc0
      ·omega
     have HZ1:=ah (show EY a f (k+(0+1))=0 by
      show EY a f (k+0+1)=0;rw [HC.out];exact Nat.div_eq_of_lt (by unfold BB;omega))
     have hcp:0<((EY a f (k+0):Nat):Int):=by omega
     have hcp9:((EY a f (k+0):Nat):Int)≤500000000:=by omega
     clear hz hc0 HE HC HN0 uM;generalize EY a f (k+0)=c at *;have HD2:=ah (show Value.int .i64 ((c:Int) % 1000000000)=.int .i64 (dg (f*a) k:Nat) from o7 (s:=c) (by omega) HD.out);have HO4:=ah (show World.ownsRow _ w.heap.size 3 1 (.slice Ej k nI) k (bI (f*a) k) from Ew.out);clear Ew;have Ew:=HO4;clear HO4;have hd:(c:Int).tdiv 1000000000=0:=by rw [Int.tdiv_eq_ediv_of_nonneg (by omega)];omega
     have hd2:(c:Int) / 1000000000=0:=by omega
     clear HD;go_wp2_with (at_builtin;refine wpList_append_own _ rfl _ _ 97 rfl w.heap.size 3 i0 (.int .i64 0) 1 8 Tryz.underlying97 Hi.out Bu.out Bt.out Br.out rfl (by decide) _ _ _ rfl (Ew.out.alloc _) _ 1 1 [.int .i64 ((c:Int) % 1000000000)] rfl rfl (jK _ _ _ _) (jM _) (by unfold maxLen;omega) (by omega) (by simp;omega) ?_);intro v' w2 hown2 hgrow _;rw [gU HD2.out] at hown2;have HB2:=ah (gV HB3.out Ew.out hgrow hsz3);obtain ⟨ao4,cap4,rfl⟩:=bK hown2;have nT:=ah hown2;clear hown2 hgrow Ew HB3 HD2;go_wp2
     go_roundw
     case rel=>exact ⟨1,by omega,by rw [HZ1.out];rfl,ah (fun _=>HZ1.out),nT.out,HB2.out⟩
     case measure=>simp [intOf];omega
def ShortO (base q r:Nat) (w:World) (e:Ending) (w':World):Prop:=∃v L,e=.returned (.tuple #[v,.int .i64 (r:Nat)])∧fT q L∧w'.ownsRow base 3 1 v L (bI q L)∧Below base w w'
theorem wQ {s d q:Nat} (h:s / d=q):Int.tdiv (s:Int) (d:Int)=(q:Int)∧(s:Int) / (d:Int)=(q:Int):=by
 subst h;exact ⟨zk s d,(Int.natCast_ediv s d).symm⟩
theorem BN {s d r:Nat} (h:s % d=r):Int.tmod (s:Int) (d:Int)=(r:Int)∧(s:Int) % (d:Int)=(r:Int):=by
 subst h;exact ⟨ze s d,(Int.natCast_emod s d).symm⟩
theorem quot_lt {a d L:Nat} (h:a<BB ^ L):a / d<BB ^ L:=Nat.lt_of_le_of_lt (Nat.div_le_self _ _) h
theorem BL (B a d L:Nat) (v:Value) (w:World) (hB:B≤w.heap.size) (hl:L≤40) (hd0:(0:Int)<(d:Int)) (hd1:(d:Int)≤999999999) (hv:rA B w v a L):Calls Tryz.prog 108 #[v,.int .i64 d] w (ShortO w.heap.size (a / d) (a % d) w):=by
 obtain ⟨ao,cap,rfl,c1,c2,hn,hx⟩:=hv;have HX:=ah hx;have Hn:=ah hn;clear hx hn;obtain ⟨i0,hi,hz0,hz1,hz2⟩:=info_parts lT;have Hi:=ah hi;have Bu:=ah hz0;have Bt:=ah hz1;have Br:=ah hz2;clear hi hz0 hz1 hz2;go_enter Tryz.func108,Tryz.ntmps108;go_wp2_with (at_make;refine wpList_make_full _ rfl _ _ 97 rfl w.heap.size 3 i0 (.int .i64 0) 1 Tryz.underlying97 Hi.out Bu.out Bt.out .i64 .i64 _ _ L rfl rfl ?c1 ?c2 ?c3 ?c4 (Nat.le_refl _) ?_)
 case c1=>rfl
 case c2=>rfl
 case c3=>rw [Br.out];omega
 case c4=>unfold maxLen;omega
 intro w1 hown1 hg1;rw [toList_madeCells_one,sj] at hown1;have mO:=ah (show Row w.heap.size w1 w.heap.size L L (dw 0 (a / d) L L) by rw [zZ (Nat.le_refl _)];exact hown1);have HB1:=ah ((Below.refl w.heap.size w).grown hg1 (Nat.le_refl _) (by simp));clear hown1 hg1;go_wp2
 go_loopw [7,8] (fun r i wr=>∃k:Nat,k≤L∧i=.int .i64 ((k:Int)-1)∧r=.int .i64 (jG a d k:Nat)∧Row w.heap.size wr w.heap.size L L (dw 0 (a / d) k L)∧Below w.heap.size w wr) (fun _ i _=>(intOf i+1).toNat)
 case atStart=>exact ⟨L,by omega,by go_num,by rw [Mc Hn.out];rfl,mO.out,HB1.out⟩
 case round=>
  obtain ⟨k,hk,rfl,rfl,hrow,hb⟩:=hrel;have HR:=ah hrow;have HB:=ah hb;clear hrow hb mO HB1;by_cases h0:k=0
  ·subst h0;have HQ:=ah (quot_lt (d:=d) Hn.out);have HR3:=ah (show World.ownsRow _ w.heap.size 3 1 (.slice (some ⟨w.heap.size,0,none⟩) L L) L (bI (a / d) L) by rw [←yt (A:=0)];exact HR.out);have HZ:=ah (zF a d);clear HR;go_wp2_with (go_at_call 99;refine (mY _ _ _ _ _ HR3.out HQ.out).mono ?_;rintro e w' ⟨⟨v',L',rfl,hl',ho'⟩,rfl⟩);have HO':=ah ho';have HL':=ah hl';clear ho' hl';rw [HZ.out];go_wp2
   go_ret2
   exact ⟨_,_,rfl,HL'.out,HO'.out,HB.out⟩
  ·obtain ⟨k,rfl⟩:∃j,k=j+1:=⟨k-1,by omega⟩;have e1:((k+1:Nat):Int)-1=(k:Nat):=by omega
   rw [e1];obtain ⟨b,off,rfl,hbb,hcx⟩:=HX.out (by omega);have hcx':=(HB.out.cell (p:=⟨b,off+k,none⟩) (Nat.lt_of_lt_of_le hbb hB)).trans (hcx k (by omega));obtain ⟨g1,g2,g3⟩:=wX a d k (by omega);have hr9:=Fa a (k+1) (show 0<d by omega);have Hl:=fZ a k;have hkL:k<L:=by omega
   have HQ:=ah (show Row w.heap.size _ w.heap.size L L (dw 0 (a / d) (k+1) L) from HR.out);have hfo:=HR.out.free k;have hco:=HR.out.at hkL;rw [kI (Nat.lt_succ_self k),Jt] at hco;clear hcx e1 h0 HR;generalize dg a k=x at *;generalize jG a d (k+1)=r at *;obtain ⟨s,hs⟩:∃s:Nat,r*BB+x=s:=⟨_,rfl⟩;rw [hs] at g1 g2 g3;have hs2:(r:Int)*1000000000+(x:Int)=(s:Int):=by unfold BB at hs;omega
   have hs9:(s:Int)≤999999999000000000:=by unfold BB at g3;omega
   obtain ⟨q1,q2⟩:=wQ g1;obtain ⟨r1,r2⟩:=BN g2;have HQD:=ah g1;have hq9:((dg (a / d) k:Nat):Int)≤999999999:=fZ _ _;have hrr9:((jG a d k:Nat):Int)≤999999999:=by have:=Fa a k (show 0<d by omega);omega
   generalize hqq:dg (a / d) k=q at *;have HQQ:=ah hqq;generalize hrr:jG a d k=r' at *;have HRR:=ah hrr;clear hs g1 g2 g3 hqq HQD hrr;go_wp2
   exact ⟨⟨k,by omega,rfl,by rw [HRR.out],by rw [←HQQ.out];exact HQ.out.down hkL,HB.out.setCell (Nat.le_refl _) _⟩,by simp [intOf]⟩
theorem FT (B a:Nat) (v:Value) (w:World) (hB:B≤w.heap.size) (fa:Fit a) (ha:a≤9223372036854775807) (hv:gP B w v a):Calls Tryz.prog 102 #[v] w fun e w'=>e=.returned (.int .i64 (a:Nat))∧w=w':=by
 obtain ⟨L,hL,ao,cap,rfl,c1,c2,hn,hx⟩:=hv;have hl:=fa.len hL;have HX:=ah hx;have Hn:=ah hn;have Ha:=ah ha;clear hx hn hL fa ha;go_enter Tryz.func102,Tryz.ntmps102;go_wp2
 go_loop [3,4] (fun r i=>∃k:Nat,k≤L∧i=.int .i64 ((k:Int)-1)∧r=.int .i64 (qN a k:Nat)) (fun _ i=>(intOf i+1).toNat)
 case atStart=>exact ⟨L,by omega,by go_num,by rw [wR Hn.out];rfl⟩
 case round=>
  obtain ⟨k,hk,rfl,rfl⟩:=hrel;by_cases h0:k=0
  ·subst h0;have HZ:=ah (vk a);go_wp2
   go_ret;exact ⟨by rw [HZ.out];rfl,rfl⟩
  ·obtain ⟨k,rfl⟩:∃j,k=j+1:=⟨k-1,by omega⟩;have e1:((k+1:Nat):Int)-1=(k:Nat):=by omega
   rw [e1];obtain ⟨b,off,rfl,hbb,hcx⟩:=HX.out (by omega);have hcx':=hcx k (by omega);have hkL:k<L:=by omega
   have hst:=kF a k;have hle:=Nat.le_trans (qN_le a k) Ha.out;generalize hqq:qN a k=s at *;have HQQ:=ah hqq;generalize qN a (k+1)=r at *;generalize dg a k=x at *;have hs2:(r:Int)*1000000000+(x:Int)=(s:Int):=by unfold BB at hst;omega
   have hr9:(r:Int)*1000000000≤9223372036854775807:=by omega
   have hs9:(s:Int)≤9223372036854775807:=by omega
   clear hcx e1 h0 hst hle hqq;go_wp2
   go_round
   case rel=>exact ⟨k,by omega,by go_num,by rw [HQQ.out]⟩
   case measure=>simp [intOf]
end Go.Proofs.YtopmdeefcjdadaaGreat
