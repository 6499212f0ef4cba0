import Derived.Test.YtopmdeefcjdadaaGreatT41M00
import Derived.Test.YtopmdeefcjdadaaGreatProg
import Derived.WalkKit
import Derived.WalkSpells
import Derived.WalkLawsBesides
import Derived.Lib.Hide
import Derived.Test.YtopmdeefcjdadaaGreatShelf
import Derived.Shelf.Spec.BitsCarry
import Derived.Deep.RegionHeld3
import Derived.Test.YtopmdeefcjdadaaGreatT41M01
import Derived.Deep.DeepCutAuto
import Derived.Deep.QuietTactic
import Derived.BigQuiet
import Derived.RegionTactic
set_option linter.unusedVariables false
set_option linter.unusedSimpArgs false
set_option maxRecDepth 100000
set_option maxHeartbeats 32000000
namespace Go.Proofs.YtopmdeefcjdadaaGreat
end Go.Proofs.YtopmdeefcjdadaaGreat
namespace Go.Proofs.YtopmdeefcjdadaaGreat
open Go.RowKit
theorem Gl (n d:Int) (hd:0<d):(if n.tmod d<0 then n.tdiv d-1 else n.tdiv d)=n / d:=by
 have h1:=@Int.tmod_eq_emod n d;have h2:=@Int.tdiv_eq_ediv n d;have h3:=Int.emod_nonneg n (b:=d) (by omega);have h4:=Int.emod_lt_of_pos n hd;have h5:d.sign=1:=Int.sign_eq_one_of_pos hd;by_cases hn:0≤n∨d ∣ n
 ·rw [if_pos hn] at h1 h2;rw [if_neg (by omega)];omega
 ·rw [if_neg hn] at h1 h2;rw [h5] at h2;have h6:((d.natAbs:Nat):Int)=d:=by omega
  rw [h6] at h1;rw [if_pos (by omega)];omega
theorem EW (n d B:Int) (hd:0<d) (hB:0≤B) (h1:-B≤n) (h2:n≤B):-B≤n / d∧n / d≤B:=by
 refine ⟨?_,?_⟩
 ·rw [Int.le_ediv_iff_mul_le hd];have:B*1≤B*d:=Int.mul_le_mul_of_nonneg_left (by omega) hB;have e:-B*d=-(B*d):=by rw [Int.neg_mul]
  omega
 ·refine Int.ediv_le_of_le_mul hd ?_;have:B*1≤B*d:=Int.mul_le_mul_of_nonneg_left (by omega) hB;omega
theorem Lv (n d:Int) (w:World) (hd:0<d) (h1:-9223372036854775807≤n) (h2:n≤9223372036854775807) (h3:d≤9223372036854775807) :
  Calls Tryz.prog 97 #[.int .i64 n,.int .i64 d] w fun e w'=>e=.returned (.int .i64 (n / d))∧w=w':=by
 have hb:=EW n d 9223372036854775807 hd (by omega) (by omega) h2;have hf:=Gl n d hd;by_cases hn:n.tmod d<0
 ·rw [if_pos hn] at hf;have hw:wrap64 (n.tdiv d-1)=n / d:=by rw [hf];exact IntWalk.wrap64_in _ ⟨by omega,by omega⟩
  have H:=ah hw;clear hw hf hb;go_enter Tryz.func97,Tryz.ntmps97;go_wp2
  go_ret;exact ⟨by rw [H.out];rfl,rfl⟩
 ·rw [if_neg hn] at hf;have H:=ah hf;clear hf hb;go_enter Tryz.func97,Tryz.ntmps97;go_wp2
  go_ret;exact ⟨by rw [H.out];rfl,rfl⟩
theorem Gf (n lo hi:Int) (w:World) (h:lo≤n∧n≤hi) :
  Calls Tryz.prog 31 #[.int .i64 n,.int .i64 lo,.int .i64 hi] w fun e w'=>e=.returned (.bool true)∧w=w':=by
 obtain ⟨h1,h2⟩:=h;have e2:decide (n≤hi)=true:=by simpa using h2
 go_enter Tryz.func31,Tryz.ntmps31;go_wp2
 go_ret;exact ⟨rfl,rfl⟩
theorem JF (n lo hi:Int) (w:World) (h:n<lo∨hi<n) :
  Calls Tryz.prog 31 #[.int .i64 n,.int .i64 lo,.int .i64 hi] w fun e w'=>e=.returned (.bool false)∧w=w':=by
 by_cases h1:lo≤n
 ·have e2:decide (n≤hi)=false:=by simp;omega
  have h2:hi<n:=by omega
  clear h;go_enter Tryz.func31,Tryz.ntmps31;go_wp2
  go_ret;exact ⟨rfl,rfl⟩
 ·have h2:n<lo:=by omega
  clear h;go_enter Tryz.func31,Tryz.ntmps31;go_wp2
  go_ret;exact ⟨rfl,rfl⟩
def iM (x:Int):Int:=x / 18446744073709551616
def jk (x:Int):Int:=x % 18446744073709551616
def eH (x:Int):Prop:=0≤x∧x<18446744073709551616
theorem OX (x:Int) (h:eH x):iM x=0:=by unfold iM;unfold eH at h;omega
theorem Ol (x:Int) (h:eH x):jk x=x:=by unfold jk;unfold eH at h;omega
theorem mul64 (x y:Int) (hx:eH x) (hy:eH y) (w:World) :
  Calls Tryz.prog 95 #[.int .u64 x,.int .u64 y] w fun e w'=>e=.returned (.tuple #[.int .u64 (iM (x*y)),.int .u64 (jk (x*y))])∧w=w':=by
 obtain ⟨hx0,hx1⟩:=hx;obtain ⟨hy0,hy1⟩:=hy;obtain ⟨a,rfl⟩:=Int.eq_ofNat_of_zero_le hx0;obtain ⟨b,rfl⟩:=Int.eq_ofNat_of_zero_le hy0;refine (Tryz.bits_Mul64 a b (by omega) (by omega) w).mono ?_;rintro e w' ⟨rfl,rfl⟩;refine ⟨?_,rfl⟩;unfold iM jk;congr 5<;>simp
theorem add64 (x y c:Int) (hx:eH x) (hy:eH y) (hc0:0≤c) (hc1:c≤1) (w:World) :
  (callFunc 96 #[.int .u64 x,.int .u64 y,.int .u64 c]).run Tryz.prog w=.ok (.value (.tuple #[.int .u64 (jk (x+y+c)),.int .u64 (iM (x+y+c))])) w:=by
 obtain ⟨hx0,hx1⟩:=hx;obtain ⟨hy0,hy1⟩:=hy;obtain ⟨a,rfl⟩:=Int.eq_ofNat_of_zero_le hx0;obtain ⟨b,rfl⟩:=Int.eq_ofNat_of_zero_le hy0;obtain ⟨d,rfl⟩:=Int.eq_ofNat_of_zero_le hc0;rw [run_callFunc_extern Tryz.func96 (by kernel_rfl) (by kernel_rfl) (by kernel_rfl) (e:=add64Entry) (by kernel_rfl),run_add64 a b d (by omega) (by omega) (by omega) (by omega)];simp only [Result.andThen];unfold iM jk;congr 5<;>omega
theorem CG (x y:Int) (hx:eH x) (hy:eH y) (w:World) :
  (callFunc 96 #[.int .u64 x,.int .u64 y,.int .u64 0]).run Tryz.prog w=.ok (.value (.tuple #[.int .u64 (jk (x+y)),.int .u64 (iM (x+y))])) w:=by
 simpa using add64 x y 0 hx hy (Int.le_refl 0) (by decide) w
theorem carry (x y:Int):0≤iM (jk x+jk y)∧iM (jk x+jk y)≤1:=by unfold iM jk;omega
theorem bt {a b c:World} (h:Below a.heap.size a b) (k:Below b.heap.size b c):Below a.heap.size a c:=h.trans (k.mono h.size)
theorem BS (n lo hi:Int) (w:World) (h:lo≤n∧n≤hi) :
  Calls Tryz.prog 45 #[.int .i64 n,.int .i64 lo,.int .i64 hi] w fun e w'=>e=.returned (.bool true)∧w=w':=by
 obtain ⟨h1,h2⟩:=h;have e2:decide (n≤hi)=true:=by simpa using h2
 go_enter Tryz.func45,Tryz.ntmps45;go_wp2
 go_ret;exact ⟨rfl,rfl⟩
theorem Em (n lo hi:Int) (w:World) (h:n<lo∨hi<n) :
  Calls Tryz.prog 45 #[.int .i64 n,.int .i64 lo,.int .i64 hi] w fun e w'=>e=.returned (.bool false)∧w=w':=by
 by_cases h1:lo≤n
 ·have e2:decide (n≤hi)=false:=by simp;omega
  have h2:hi<n:=by omega
  clear h;go_enter Tryz.func45,Tryz.ntmps45;go_wp2
  go_ret;exact ⟨rfl,rfl⟩
 ·have h2:n<lo:=by omega
  clear h;go_enter Tryz.func45,Tryz.ntmps45;go_wp2
  go_ret;exact ⟨rfl,rfl⟩
def RowAt (k:IntKind) (w:World) (b off:Nat) (zs:List Int):Prop:=∀i (h:i<zs.length),w.cell? ⟨b,off+i,none⟩=some (.int k zs[i])
def nN:List Int→Int
 | []=>0
 | e::l=>if e=0 then nN l else e
theorem ET (l:List Int) (k:Nat) (h:k<l.length):nN (l.drop k)=if l[k]=0 then nN (l.drop (k+1)) else l[k]:=by
 rw [List.drop_eq_getElem_cons h];rfl
theorem LA (b off cap:Nat) (zs:List Int) (w:World) (hm:zs.length≤9223372036854775807)
  (hc:RowAt .i64 w b off zs) :
  Calls Tryz.prog 14 #[.slice (some ⟨b,off,none⟩) zs.length cap] w fun e w'=>e=.returned (.int .i64 (nN zs))∧w=w':=by
 go_enter Tryz.func14,Tryz.ntmps14;go_wp2
 go_loop [7] (fun i=>∃k:Nat,k≤zs.length∧i=.int .i64 k∧nN zs=nN (zs.drop k)) (fun i=>zs.length-(intOf i).toNat)
 case atStart=>exact ⟨0,Nat.zero_le _,rfl,rfl⟩
 case round=>
  obtain ⟨k,hk,rfl,he⟩:=hrel;have HE:=ah he;clear he;by_cases hlt:k<zs.length
  ·have hcell:=hc k hlt;have HD:=ah (ET zs k hlt);by_cases h0:(zs[k] !=0)=true
   ·go_wp2
    go_ret;exact ⟨by rw [HE.out,HD.out,if_neg (by simpa using h0)];rfl,rfl⟩
   ·have h1:(zs[k] !=0)=false:=by simpa using h0
    clear h0;go_wp2
    go_round
    case rel=>exact ⟨k+1,by omega,by go_num,by rw [HE.out,HD.out,if_pos (by simpa using h1)]⟩
    case measure=>simp [intOf];omega
  ·have HD:Hid (nN (zs.drop k)=0):=by
    rw [List.drop_eq_nil_of_le (by omega)];exact rfl
   go_wp2
   go_ret;exact ⟨by rw [HE.out,HD.out];rfl,rfl⟩
theorem M4 (f:Int) (w:World):Calls Tryz.prog 17 #[.bool true,.int .i64 f] w fun e w'=>e=.returned (.int .i64 f)∧w=w':=by
 go_enter Tryz.func17,Tryz.ntmps17;go_wp2
 go_ret;exact ⟨rfl,rfl⟩
theorem when_no (f:Int) (w:World):Calls Tryz.prog 17 #[.bool false,.int .i64 f] w fun e w'=>e=.returned (.int .i64 0)∧w=w':=by
 go_enter Tryz.func17,Tryz.ntmps17;go_wp2
 go_ret;exact ⟨rfl,rfl⟩
def bU (n lo hi:Int):Bool:=decide (lo≤n∧n≤hi)
def jN (b:Bool) (f:Int):Int:=if b then f else 0
theorem aU (n lo hi:Int) (w:World):Calls Tryz.prog 31 #[.int .i64 n,.int .i64 lo,.int .i64 hi] w fun e w'=>e=.returned (.bool (bU n lo hi))∧w=w':=by
 by_cases h:lo≤n∧n≤hi
 ·have:bU n lo hi=true:=decide_eq_true h;rw [this];exact Gf n lo hi w h
 ·have:bU n lo hi=false:=decide_eq_false h;rw [this];exact JF n lo hi w (by omega)
theorem bX (b:Bool) (f:Int) (w:World):Calls Tryz.prog 17 #[.bool b,.int .i64 f] w fun e w'=>e=.returned (.int .i64 (jN b f))∧w=w':=by
 cases b
 ·exact when_no f w
 ·exact M4 f w
theorem aQ (n lo hi:Int) (w:World):Calls Tryz.prog 45 #[.int .i64 n,.int .i64 lo,.int .i64 hi] w fun e w'=>e=.returned (.bool (bU n lo hi))∧w=w':=by
 by_cases h:lo≤n∧n≤hi
 ·have:bU n lo hi=true:=decide_eq_true h;rw [this];exact BS n lo hi w h
 ·have:bU n lo hi=false:=decide_eq_false h;rw [this];exact Em n lo hi w (by omega)
theorem bf (n:Int) (w:World):Calls Tryz.prog 44 #[.int .i64 n] w fun e w'=>e=.returned (.bool (bU n 0 65535))∧w=w':=by
 go_enter Tryz.func44,Tryz.ntmps44;go_wp2_with (go_at_call 45;refine (aQ _ _ _ _).mono ?_;rintro e w' ⟨rfl,rfl⟩);go_ret;exact ⟨rfl,rfl⟩
theorem bC (n:Int) (w:World):Calls Tryz.prog 38 #[.int .i64 n] w fun e w'=>e=.returned (.bool (bU n 0 65535))∧w=w':=by
 go_enter Tryz.func38,Tryz.ntmps38;go_wp2_with (go_at_call 31;refine (aU _ _ _ _).mono ?_;rintro e w' ⟨rfl,rfl⟩);go_ret;exact ⟨rfl,rfl⟩
def fJ (s:Stp):Bool:=bU s.lv 0 65535&&bU s.hold 0 3600000&&bU s.bD 0 3600000
def cK:List Stp→Int
 | []=>0
 | s::r=>s.hold+s.bD+cK r
theorem DY (l m:List Stp):cK (l++m)=cK l+cK m:=by
 induction l with
 | nil=>simp [cK]
 | cons s r ih=>simp only [List.cons_append,cK,ih];omega
theorem Aw (l:List Stp) (k:Nat) (h:k<l.length):cK (l.take (k+1))=cK (l.take k)+(l[k].hold+l[k].bD):=by
 rw [List.take_succ_eq_append_getElem h,DY];simp [cK]
theorem rP {s:Stp} (h:fJ s=true):(0≤s.lv∧s.lv≤65535)∧(0≤s.hold∧s.hold≤3600000)∧0≤s.bD∧s.bD≤3600000:=by
 simp [fJ,bU] at h;omega
theorem Je (l:List Stp) (h:l.all fJ=true):0≤cK l∧cK l≤7200000*l.length:=by
 induction l with
 | nil=>simp [cK]
 | cons s r ih=>
  simp only [List.all_cons,Bool.and_eq_true] at h;have h1:=ih h.2;have h2:=rP h.1;simp only [cK,List.length_cons];omega
theorem Bt {l:List Stp} (h:l.all fJ=true) (k:Nat):(l.take k).all fJ=true:=by
 rw [List.all_eq_true] at h ⊢;exact fun x hx=>h x (List.mem_of_mem_take hx)
def dW (fb f4 f7 w0 c0 l0 lb hb hl cb wb sb l50 st cy:Bool):Int:=
 if !fb then 4 else if (!f4&&!w0)||(f7&&!c0)||(!f7&&!l0) then 3 else if !lb||!hb||hl then 1 else if (!f7&&!cb)||!wb||!sb then 1 else if !f7 then 0 else if l0 then 8 else if l50 then 2 else if !st then 1 else if cy then 0 else 1
def dD (aJ low aC ay av ak:Int) (l:List Stp):Int:=
 dW (bU aJ 1 7) (aJ==4) (aJ==7) (av==0) (ay==0) (l.length==0) (bU low 0 65535) (bU aC 0 65535) (decide (aC<low)) (bU ay 1 3600000) (bU av 0 1000) (bU ak (-10000) 10000) (decide (50<l.length)) (l.all fJ) (bU (ay+cK l) 1 3600000)
def oD (x:Eff):Int:=dD x.aJ x.low x.aC x.ay x.av x.ak x.jP
def dV (B:Nat) (w:World) (ao:Option Addr) (l:List Stp):Prop:=l≠[]→∃b off,ao=some ⟨b,off,none⟩∧b<B∧∀i (h:i<l.length),StpC w b (off+i*3) l[i]
theorem vU (aJ low aC ay av ak:Int) (aH rel:Bool) (ao:Option Addr) (cap:Nat) (l:List Stp) (w:World) (hs:dV w.heap.size w ao l) (hl:l.length≤50) (hall:l.all fJ=true) (hc:0≤ay∧ay≤3600000) :
  Calls Tryz.prog 63 #[(.agg #[.int .i64 aJ,.int .i64 low,.int .i64 aC,.int .i64 ay,.int .i64 av,.int .i64 ak,.bool aH,.bool rel,.slice ao l.length cap])] w fun e w'=>e=.returned (.int .i64 (ay+cK l))∧Below w.heap.size w w':=by
 have HS:=ah hs;have iG:=ah (fun k=>Je _ (Bt hall k));have HK:=ah (fun k (h:k<l.length)=>Aw l k h);have HA:=ah (fun k (h:k<l.length)=>rP (List.all_eq_true.1 hall _ (List.getElem_mem h)));have Dq:=ah (show cK (l.take l.length)=cK l by rw [List.take_length]);skip;clear hs hall;go_enter Tryz.func63,Tryz.ntmps63;go_wp2_with fail;go_loopw [3,11] (fun n i wr=>∃k:Nat,k≤l.length∧i=.int .i64 k∧n=.int .i64 (ay+cK (l.take k))∧Below w.heap.size w wr∧w.heap.size+1≤wr.heap.size) (fun _ i _=>l.length-(intOf i).toNat)
 case atStart=>exact ⟨0,Nat.zero_le _,rfl,by simp [cK],(Below.refl _ _).alloc (Nat.le_refl _) _,by simp⟩
 case round=>
  obtain ⟨k,hk,rfl,rfl,hbw,xL⟩:=hrel;by_cases hlt:k<l.length
  ·obtain ⟨b,off,rfl,hbb,tN⟩:=HS.out (by intro h;subst h;simp at hlt);obtain ⟨c0,c1,c2⟩:=tN k hlt;have d0:wr.cell? ⟨b,off+k*3,none⟩=some (.int .i64 l[k].lv):=(hbw.cell (p:=⟨b,off+k*3,none⟩) hbb).trans c0;have d1:wr.cell? ⟨b,off+k*3+1,none⟩=some (.int .i64 l[k].hold):=(hbw.cell (p:=⟨b,off+k*3+1,none⟩) hbb).trans c1;have d2:wr.cell? ⟨b,off+k*3+2,none⟩=some (.int .i64 l[k].bD):=(hbw.cell (p:=⟨b,off+k*3+2,none⟩) hbb).trans c2;have hbr:b<wr.heap.size:=by omega
   have HB:=ah hbw;have HN:=ah (HK.out k hlt);have s1:=iG.out k;obtain ⟨_,s3,s4⟩:=HA.out k hlt;have s2:(l.take k).length≤50:=by rw [List.length_take];omega
   obtain ⟨s5,s6⟩:=s1;have s7:cK (l.take k)≤360000000:=by omega
   clear hbw c0 c1 c2 tN hbb s6;go_wp2_with fail;go_roundw
   case rel=>
    first
     | exact ⟨k+1,by omega,by go_num,by rw [HN.out]<;>(congr 1;omega),HB.out.alloc (by omega) _,by simp;omega⟩
     | ((repeat apply Exists.intro);refine ⟨⟨k+1,by omega,by go_num,by rw [HN.out]<;>(congr 1;omega),HB.out.alloc (by omega) _,by simp;omega⟩,?_⟩;rfl)
   case measure=>simp [intOf];omega
  ·have hkk:k=l.length:=by omega
   have HB:=ah hbw;subst hkk;clear hbw;go_wp2_with fail;go_ret;exact ⟨by rw [Dq.out];rfl,HB.out⟩
theorem yE (aJ low aC ay av ak:Int) (aH rel:Bool) (ao:Option Addr) (cap:Nat) (l:List Stp) (w:World) (h7:aJ=7) (hs:dV w.heap.size w ao l) (hl:l.length≤50) (hall:l.all fJ=true) (hc:0≤ay∧ay≤3600000) :
  Calls Tryz.prog 59 #[(.agg #[.int .i64 aJ,.int .i64 low,.int .i64 aC,.int .i64 ay,.int .i64 av,.int .i64 ak,.bool aH,.bool rel,.slice ao l.length cap])] w fun e w'=>e=.returned (.int .i64 (cK l))∧Below w.heap.size w w':=by
 have HS:=ah hs;have iG:=ah (fun k=>Je _ (Bt hall k));have HK:=ah (fun k (h:k<l.length)=>Aw l k h);have HA:=ah (fun k (h:k<l.length)=>rP (List.all_eq_true.1 hall _ (List.getElem_mem h)));have Dq:=ah (show cK (l.take l.length)=cK l by rw [List.take_length]);subst h7;clear hs hall;go_enter Tryz.func59,Tryz.ntmps59;go_wp2_with fail;go_loopw [3,14] (fun n i wr=>∃k:Nat,k≤l.length∧i=.int .i64 k∧n=.int .i64 (cK (l.take k))∧Below w.heap.size w wr∧w.heap.size+1≤wr.heap.size) (fun _ i _=>l.length-(intOf i).toNat)
 case atStart=>exact ⟨0,Nat.zero_le _,rfl,by simp [cK],(Below.refl _ _).alloc (Nat.le_refl _) _,by simp⟩
 case round=>
  obtain ⟨k,hk,rfl,rfl,hbw,xL⟩:=hrel;by_cases hlt:k<l.length
  ·obtain ⟨b,off,rfl,hbb,tN⟩:=HS.out (by intro h;subst h;simp at hlt);obtain ⟨c0,c1,c2⟩:=tN k hlt;have d0:wr.cell? ⟨b,off+k*3,none⟩=some (.int .i64 l[k].lv):=(hbw.cell (p:=⟨b,off+k*3,none⟩) hbb).trans c0;have d1:wr.cell? ⟨b,off+k*3+1,none⟩=some (.int .i64 l[k].hold):=(hbw.cell (p:=⟨b,off+k*3+1,none⟩) hbb).trans c1;have d2:wr.cell? ⟨b,off+k*3+2,none⟩=some (.int .i64 l[k].bD):=(hbw.cell (p:=⟨b,off+k*3+2,none⟩) hbb).trans c2;have hbr:b<wr.heap.size:=by omega
   have HB:=ah hbw;have HN:=ah (HK.out k hlt);have s1:=iG.out k;obtain ⟨_,s3,s4⟩:=HA.out k hlt;have s2:(l.take k).length≤50:=by rw [List.length_take];omega
   obtain ⟨s5,s6⟩:=s1;have s7:cK (l.take k)≤360000000:=by omega
   clear hbw c0 c1 c2 tN hbb s6;go_wp2_with fail;go_roundw
   case rel=>
    first
     | exact ⟨k+1,by omega,by go_num,by rw [HN.out]<;>(congr 1;omega),HB.out.alloc (by omega) _,by simp;omega⟩
     | ((repeat apply Exists.intro);refine ⟨⟨k+1,by omega,by go_num,by rw [HN.out]<;>(congr 1;omega),HB.out.alloc (by omega) _,by simp;omega⟩,?_⟩;rfl)
   case measure=>simp [intOf];omega
  ·have hkk:k=l.length:=by omega
   have HB:=ah hbw;subst hkk;clear hbw;go_wp2_with fail;go_ret;exact ⟨by rw [Dq.out];rfl,HB.out⟩
theorem EU (aJ low aC ay av ak:Int) (aH rel:Bool) (ao:Option Addr) (cap:Nat) (l:List Stp) (w:World) (hs:dV w.heap.size w ao l) (hmax:l.length≤maxLen) :
  Calls Tryz.prog 37 #[(.agg #[.int .i64 aJ,.int .i64 low,.int .i64 aC,.int .i64 ay,.int .i64 av,.int .i64 ak,.bool aH,.bool rel,.slice ao l.length cap])] w fun e w'=>e=.returned (.int .i64 (dD aJ low aC ay av ak l))∧Below w.heap.size w w':=by
 unfold maxLen at hmax;have HS:=ah hs;clear hs;have CY:=ah (fun (W:World) (hB:Below w.heap.size w W) (h1:l.length≤50) (h2:l.all fJ=true) (h3:0≤ay∧ay≤3600000) (h7:aJ=7)=>vU aJ low aC ay av ak aH rel ao cap l W (fun hne=>by obtain ⟨b,off,k1,k2,k3⟩:=HS.out hne;exact ⟨b,off,k1,Nat.lt_of_lt_of_le k2 hB.size,fun i hi=>⟨(hB.cell (p:=⟨b,off+i*3,none⟩) k2).trans (k3 i hi).1,(hB.cell (p:=⟨b,off+i*3+1,none⟩) k2).trans (k3 i hi).2.1,(hB.cell (p:=⟨b,off+i*3+2,none⟩) k2).trans (k3 i hi).2.2⟩⟩) h1 h2 h3);generalize hC:dD aJ low aC ay av ak l=C;have HC:=ah hC.symm;clear hC;by_cases f4:aJ=4
 ·subst f4;have fb:bU 4 1 7=true:=by decide
  go_enter Tryz.func37,Tryz.ntmps37;go_upto_region 4 with (first | (go_at_call 31;((with_reducible refine (aU _ _ _ _).mono ?_);rintro e w' ⟨rfl,rfl⟩)) | (go_at_call 38;((with_reducible refine (bC _ _).mono ?_);rintro e w' ⟨rfl,rfl⟩)) | (go_at_call 17;((with_reducible refine (bX _ _ _).mono ?_);rintro e w' ⟨rfl,rfl⟩)) | fail);rcases Nat.eq_zero_or_pos l.length with l0 | l0;rotate_left
  ·have l0':¬l.length=0:=by omega
   have HV:=ah (show C=3 by rw [HC.out];simp [dD,dW, *]);go_wp2_with (first | (go_at_call 31;((with_reducible refine (aU _ _ _ _).mono ?_);rintro e w' ⟨rfl,rfl⟩)) | (go_at_call 38;((with_reducible refine (bC _ _).mono ?_);rintro e w' ⟨rfl,rfl⟩)) | (go_at_call 17;((with_reducible refine (bX _ _ _).mono ?_);rintro e w' ⟨rfl,rfl⟩)) | fail);all_goals go_ret
   all_goals exact ⟨by rw [HV.out]<;>rfl,(Below.refl _ _).alloc (Nat.le_refl _) _⟩
  go_upto_region 6 with (first | (go_at_call 31;((with_reducible refine (aU _ _ _ _).mono ?_);rintro e w' ⟨rfl,rfl⟩)) | (go_at_call 38;((with_reducible refine (bC _ _).mono ?_);rintro e w' ⟨rfl,rfl⟩)) | (go_at_call 17;((with_reducible refine (bX _ _ _).mono ?_);rintro e w' ⟨rfl,rfl⟩)) | fail);rcases Bool.eq_false_or_eq_true (bU low 0 65535) with k1 | k1;rotate_left
  ·skip;have HV:=ah (show C=1 by rw [HC.out];simp [dD,dW, *]);go_wp2_with (first | (go_at_call 31;((with_reducible refine (aU _ _ _ _).mono ?_);rintro e w' ⟨rfl,rfl⟩)) | (go_at_call 38;((with_reducible refine (bC _ _).mono ?_);rintro e w' ⟨rfl,rfl⟩)) | (go_at_call 17;((with_reducible refine (bX _ _ _).mono ?_);rintro e w' ⟨rfl,rfl⟩)) | fail);all_goals go_ret
   all_goals exact ⟨by rw [HV.out]<;>rfl,(Below.refl _ _).alloc (Nat.le_refl _) _⟩
  rcases Bool.eq_false_or_eq_true (bU aC 0 65535) with k2 | k2;rotate_left
  ·skip;have HV:=ah (show C=1 by rw [HC.out];simp [dD,dW, *]);go_wp2_with (first | (go_at_call 31;((with_reducible refine (aU _ _ _ _).mono ?_);rintro e w' ⟨rfl,rfl⟩)) | (go_at_call 38;((with_reducible refine (bC _ _).mono ?_);rintro e w' ⟨rfl,rfl⟩)) | (go_at_call 17;((with_reducible refine (bX _ _ _).mono ?_);rintro e w' ⟨rfl,rfl⟩)) | fail);all_goals go_ret
   all_goals exact ⟨by rw [HV.out]<;>rfl,(Below.refl _ _).alloc (Nat.le_refl _) _⟩
  by_cases k3:aC<low
  ·skip;have HV:=ah (show C=1 by rw [HC.out];simp [dD,dW, *]);go_wp2_with (first | (go_at_call 31;((with_reducible refine (aU _ _ _ _).mono ?_);rintro e w' ⟨rfl,rfl⟩)) | (go_at_call 38;((with_reducible refine (bC _ _).mono ?_);rintro e w' ⟨rfl,rfl⟩)) | (go_at_call 17;((with_reducible refine (bX _ _ _).mono ?_);rintro e w' ⟨rfl,rfl⟩)) | fail);all_goals go_ret
   all_goals exact ⟨by rw [HV.out]<;>rfl,(Below.refl _ _).alloc (Nat.le_refl _) _⟩
  have k3':low≤aC:=by omega
  go_upto_region 8 with (first | (go_at_call 31;((with_reducible refine (aU _ _ _ _).mono ?_);rintro e w' ⟨rfl,rfl⟩)) | (go_at_call 38;((with_reducible refine (bC _ _).mono ?_);rintro e w' ⟨rfl,rfl⟩)) | (go_at_call 17;((with_reducible refine (bX _ _ _).mono ?_);rintro e w' ⟨rfl,rfl⟩)) | fail);rcases Bool.eq_false_or_eq_true (bU ay 1 3600000) with k4 | k4;rotate_left
  ·skip;have HV:=ah (show C=1 by rw [HC.out];simp [dD,dW, *]);go_wp2_with (first | (go_at_call 31;((with_reducible refine (aU _ _ _ _).mono ?_);rintro e w' ⟨rfl,rfl⟩)) | (go_at_call 38;((with_reducible refine (bC _ _).mono ?_);rintro e w' ⟨rfl,rfl⟩)) | (go_at_call 17;((with_reducible refine (bX _ _ _).mono ?_);rintro e w' ⟨rfl,rfl⟩)) | fail);all_goals go_ret
   all_goals exact ⟨by rw [HV.out]<;>rfl,(Below.refl _ _).alloc (Nat.le_refl _) _⟩
  rcases Bool.eq_false_or_eq_true (bU av 0 1000) with k5 | k5;rotate_left
  ·skip;have HV:=ah (show C=1 by rw [HC.out];simp [dD,dW, *]);go_wp2_with (first | (go_at_call 31;((with_reducible refine (aU _ _ _ _).mono ?_);rintro e w' ⟨rfl,rfl⟩)) | (go_at_call 38;((with_reducible refine (bC _ _).mono ?_);rintro e w' ⟨rfl,rfl⟩)) | (go_at_call 17;((with_reducible refine (bX _ _ _).mono ?_);rintro e w' ⟨rfl,rfl⟩)) | fail);all_goals go_ret
   all_goals exact ⟨by rw [HV.out]<;>rfl,(Below.refl _ _).alloc (Nat.le_refl _) _⟩
  rcases Bool.eq_false_or_eq_true (bU ak (-10000) 10000) with k6 | k6;rotate_left
  ·skip;have HV:=ah (show C=1 by rw [HC.out];simp [dD,dW, *]);go_wp2_with (first | (go_at_call 31;((with_reducible refine (aU _ _ _ _).mono ?_);rintro e w' ⟨rfl,rfl⟩)) | (go_at_call 38;((with_reducible refine (bC _ _).mono ?_);rintro e w' ⟨rfl,rfl⟩)) | (go_at_call 17;((with_reducible refine (bX _ _ _).mono ?_);rintro e w' ⟨rfl,rfl⟩)) | fail);all_goals go_ret
   all_goals exact ⟨by rw [HV.out]<;>rfl,(Below.refl _ _).alloc (Nat.le_refl _) _⟩
  have HV:=ah (show C=0 by rw [HC.out];simp [dD,dW, *]);go_wp2_with (first | (go_at_call 31;((with_reducible refine (aU _ _ _ _).mono ?_);rintro e w' ⟨rfl,rfl⟩)) | (go_at_call 38;((with_reducible refine (bC _ _).mono ?_);rintro e w' ⟨rfl,rfl⟩)) | (go_at_call 17;((with_reducible refine (bX _ _ _).mono ?_);rintro e w' ⟨rfl,rfl⟩)) | fail);all_goals go_ret
  all_goals exact ⟨by rw [HV.out]<;>rfl,(Below.refl _ _).alloc (Nat.le_refl _) _⟩
 by_cases f7:aJ=7
 ·subst f7;have fb:bU 7 1 7=true:=by decide
  go_enter Tryz.func37,Tryz.ntmps37;go_upto_region 4 with (first | (go_at_call 31;((with_reducible refine (aU _ _ _ _).mono ?_);rintro e w' ⟨rfl,rfl⟩)) | (go_at_call 38;((with_reducible refine (bC _ _).mono ?_);rintro e w' ⟨rfl,rfl⟩)) | (go_at_call 17;((with_reducible refine (bX _ _ _).mono ?_);rintro e w' ⟨rfl,rfl⟩)) | fail);by_cases w0:av=0;rotate_left
  ·have w1:(av !=0)=true:=by simp [w0]
   have HV:=ah (show C=3 by rw [HC.out];simp [dD,dW, *]);go_wp2_with (first | (go_at_call 31;((with_reducible refine (aU _ _ _ _).mono ?_);rintro e w' ⟨rfl,rfl⟩)) | (go_at_call 38;((with_reducible refine (bC _ _).mono ?_);rintro e w' ⟨rfl,rfl⟩)) | (go_at_call 17;((with_reducible refine (bX _ _ _).mono ?_);rintro e w' ⟨rfl,rfl⟩)) | fail);all_goals go_ret
   all_goals exact ⟨by rw [HV.out]<;>rfl,(Below.refl _ _).alloc (Nat.le_refl _) _⟩
  subst w0;by_cases c0:ay=0;rotate_left
  ·have c1:(ay !=0)=true:=by simp [c0]
   have HV:=ah (show C=3 by rw [HC.out];simp [dD,dW, *]);go_wp2_with (first | (go_at_call 31;((with_reducible refine (aU _ _ _ _).mono ?_);rintro e w' ⟨rfl,rfl⟩)) | (go_at_call 38;((with_reducible refine (bC _ _).mono ?_);rintro e w' ⟨rfl,rfl⟩)) | (go_at_call 17;((with_reducible refine (bX _ _ _).mono ?_);rintro e w' ⟨rfl,rfl⟩)) | fail);all_goals go_ret
   all_goals exact ⟨by rw [HV.out]<;>rfl,(Below.refl _ _).alloc (Nat.le_refl _) _⟩
  subst c0;go_upto_region 6 with (first | (go_at_call 31;((with_reducible refine (aU _ _ _ _).mono ?_);rintro e w' ⟨rfl,rfl⟩)) | (go_at_call 38;((with_reducible refine (bC _ _).mono ?_);rintro e w' ⟨rfl,rfl⟩)) | (go_at_call 17;((with_reducible refine (bX _ _ _).mono ?_);rintro e w' ⟨rfl,rfl⟩)) | fail);rcases Bool.eq_false_or_eq_true (bU low 0 65535) with k1 | k1;rotate_left
  ·skip;have HV:=ah (show C=1 by rw [HC.out];simp [dD,dW, *]);go_wp2_with (first | (go_at_call 31;((with_reducible refine (aU _ _ _ _).mono ?_);rintro e w' ⟨rfl,rfl⟩)) | (go_at_call 38;((with_reducible refine (bC _ _).mono ?_);rintro e w' ⟨rfl,rfl⟩)) | (go_at_call 17;((with_reducible refine (bX _ _ _).mono ?_);rintro e w' ⟨rfl,rfl⟩)) | fail);all_goals go_ret
   all_goals exact ⟨by rw [HV.out]<;>rfl,(Below.refl _ _).alloc (Nat.le_refl _) _⟩
  rcases Bool.eq_false_or_eq_true (bU aC 0 65535) with k2 | k2;rotate_left
  ·skip;have HV:=ah (show C=1 by rw [HC.out];simp [dD,dW, *]);go_wp2_with (first | (go_at_call 31;((with_reducible refine (aU _ _ _ _).mono ?_);rintro e w' ⟨rfl,rfl⟩)) | (go_at_call 38;((with_reducible refine (bC _ _).mono ?_);rintro e w' ⟨rfl,rfl⟩)) | (go_at_call 17;((with_reducible refine (bX _ _ _).mono ?_);rintro e w' ⟨rfl,rfl⟩)) | fail);all_goals go_ret
   all_goals exact ⟨by rw [HV.out]<;>rfl,(Below.refl _ _).alloc (Nat.le_refl _) _⟩
  by_cases k3:aC<low
  ·skip;have HV:=ah (show C=1 by rw [HC.out];simp [dD,dW, *]);go_wp2_with (first | (go_at_call 31;((with_reducible refine (aU _ _ _ _).mono ?_);rintro e w' ⟨rfl,rfl⟩)) | (go_at_call 38;((with_reducible refine (bC _ _).mono ?_);rintro e w' ⟨rfl,rfl⟩)) | (go_at_call 17;((with_reducible refine (bX _ _ _).mono ?_);rintro e w' ⟨rfl,rfl⟩)) | fail);all_goals go_ret
   all_goals exact ⟨by rw [HV.out]<;>rfl,(Below.refl _ _).alloc (Nat.le_refl _) _⟩
  have k3':low≤aC:=by omega
  go_upto_region 8 with (first | (go_at_call 31;((with_reducible refine (aU _ _ _ _).mono ?_);rintro e w' ⟨rfl,rfl⟩)) | (go_at_call 38;((with_reducible refine (bC _ _).mono ?_);rintro e w' ⟨rfl,rfl⟩)) | (go_at_call 17;((with_reducible refine (bX _ _ _).mono ?_);rintro e w' ⟨rfl,rfl⟩)) | fail);have k5:bU 0 0 1000=true:=by decide
  rcases Bool.eq_false_or_eq_true (bU ak (-10000) 10000) with k6 | k6;rotate_left
  ·skip;have HV:=ah (show C=1 by rw [HC.out];simp [dD,dW, *]);go_wp2_with (first | (go_at_call 31;((with_reducible refine (aU _ _ _ _).mono ?_);rintro e w' ⟨rfl,rfl⟩)) | (go_at_call 38;((with_reducible refine (bC _ _).mono ?_);rintro e w' ⟨rfl,rfl⟩)) | (go_at_call 17;((with_reducible refine (bX _ _ _).mono ?_);rintro e w' ⟨rfl,rfl⟩)) | fail);all_goals go_ret
   all_goals exact ⟨by rw [HV.out]<;>rfl,(Below.refl _ _).alloc (Nat.le_refl _) _⟩
  rcases Nat.eq_zero_or_pos l.length with l0 | l0
  ·skip;have HV:=ah (show C=8 by rw [HC.out];simp [dD,dW, *]);go_wp2_with (first | (go_at_call 31;((with_reducible refine (aU _ _ _ _).mono ?_);rintro e w' ⟨rfl,rfl⟩)) | (go_at_call 38;((with_reducible refine (bC _ _).mono ?_);rintro e w' ⟨rfl,rfl⟩)) | (go_at_call 17;((with_reducible refine (bX _ _ _).mono ?_);rintro e w' ⟨rfl,rfl⟩)) | fail);all_goals go_ret
   all_goals exact ⟨by rw [HV.out]<;>rfl,(Below.refl _ _).alloc (Nat.le_refl _) _⟩
  have l0':¬l.length=0:=by omega
  have l0'':((l.length:Int)==0)=false:=by rw [beq_eq_false_iff_ne];omega
  by_cases l5:50<l.length
  ·skip;have HV:=ah (show C=2 by rw [HC.out];simp [dD,dW, *]);go_wp2_with (first | (go_at_call 31;((with_reducible refine (aU _ _ _ _).mono ?_);rintro e w' ⟨rfl,rfl⟩)) | (go_at_call 38;((with_reducible refine (bC _ _).mono ?_);rintro e w' ⟨rfl,rfl⟩)) | (go_at_call 17;((with_reducible refine (bX _ _ _).mono ?_);rintro e w' ⟨rfl,rfl⟩)) | fail);all_goals go_ret
   all_goals exact ⟨by rw [HV.out]<;>rfl,(Below.refl _ _).alloc (Nat.le_refl _) _⟩
  have l5':l.length≤50:=by omega
  obtain ⟨b,off,rfl,hbb,tN⟩:=HS.out (by intro h;subst h;simp at l0);have HC9:=ah tN;have nQ:=ah (show C=if l.all fJ=true then (if bU (cK l) 1 3600000=true then 0 else 1) else 1 by rw [HC.out];unfold dD;rw [show (0:Int)+cK l=cK l by omega];generalize bU (cK l) 1 3600000=cy;cases hst:l.all fJ<;>cases cy<;>simp [dW, *])
  have dN:=ah (show ∀W,Below (w.heap.size+1) (w.alloc (.cells #[.int .i64 7,.int .i64 low,.int .i64 aC,.int .i64 0,.int .i64 0,.int .i64 ak,.bool aH,.bool rel,.slice (some ⟨b,off,none⟩) l.length cap] 28)) W→(W.cell? ⟨w.heap.size,0,none⟩=some (.int .i64 7)∧W.cell? ⟨w.heap.size,1,none⟩=some (.int .i64 low)∧W.cell? ⟨w.heap.size,2,none⟩=some (.int .i64 aC)∧W.cell? ⟨w.heap.size,3,none⟩=some (.int .i64 0)∧W.cell? ⟨w.heap.size,4,none⟩=some (.int .i64 0)∧W.cell? ⟨w.heap.size,5,none⟩=some (.int .i64 ak)∧W.cell? ⟨w.heap.size,6,none⟩=some (.bool aH)∧W.cell? ⟨w.heap.size,7,none⟩=some (.bool rel)∧W.cell? ⟨w.heap.size,8,none⟩=some (.slice (some ⟨b,off,none⟩) l.length cap)) from fun W hW=>by
   refine ⟨?_,?_,?_,?_,?_,?_,?_,?_,?_⟩
   ·exact (hW.cell (p:=⟨w.heap.size,0,none⟩) (by simp)).trans (by simp [go_sem])
   ·exact (hW.cell (p:=⟨w.heap.size,1,none⟩) (by simp)).trans (by simp [go_sem])
   ·exact (hW.cell (p:=⟨w.heap.size,2,none⟩) (by simp)).trans (by simp [go_sem])
   ·exact (hW.cell (p:=⟨w.heap.size,3,none⟩) (by simp)).trans (by simp [go_sem])
   ·exact (hW.cell (p:=⟨w.heap.size,4,none⟩) (by simp)).trans (by simp [go_sem])
   ·exact (hW.cell (p:=⟨w.heap.size,5,none⟩) (by simp)).trans (by simp [go_sem])
   ·exact (hW.cell (p:=⟨w.heap.size,6,none⟩) (by simp)).trans (by simp [go_sem])
   ·exact (hW.cell (p:=⟨w.heap.size,7,none⟩) (by simp)).trans (by simp [go_sem])
   ·exact (hW.cell (p:=⟨w.heap.size,8,none⟩) (by simp)).trans (by simp [go_sem])
  )
  clear tN;go_wp2_with (first | (go_at_call 31;((with_reducible refine (aU _ _ _ _).mono ?_);rintro e w' ⟨rfl,rfl⟩)) | (go_at_call 38;((with_reducible refine (bC _ _).mono ?_);rintro e w' ⟨rfl,rfl⟩)) | (go_at_call 17;((with_reducible refine (bX _ _ _).mono ?_);rintro e w' ⟨rfl,rfl⟩)) | fail);go_loopw [96] (fun i wr=>∃k:Nat,k≤l.length∧i=.int .i64 k∧Hid ((l.take k).all fJ=true)∧Below (w.heap.size+1) (w.alloc (.cells #[.int .i64 7,.int .i64 low,.int .i64 aC,.int .i64 0,.int .i64 0,.int .i64 ak,.bool aH,.bool rel,.slice (some ⟨b,off,none⟩) l.length cap] 28)) wr) (fun i _=>l.length-(intOf i).toNat)
  case atStart=>exact ⟨0,Nat.zero_le _,rfl,ah (by simp),Below.refl _ _⟩
  case round=>
   obtain ⟨k,hk,rfl,HAK,hbw⟩:=hrel;have HB:=ah hbw;have bG:=ah (show Below w.heap.size w wr from ((Below.refl _ _).alloc (Nat.le_refl _) _).trans (hbw.mono (by omega)));have xL:=hbw.size;simp at xL;by_cases hlt:k<l.length
   ·obtain ⟨c0,c1,c2⟩:=HC9.out k hlt;have d0:wr.cell? ⟨b,off+k*3,none⟩=some (.int .i64 l[k].lv):=(bG.out.cell (p:=⟨b,off+k*3,none⟩) hbb).trans c0;have d1:wr.cell? ⟨b,off+k*3+1,none⟩=some (.int .i64 l[k].hold):=(bG.out.cell (p:=⟨b,off+k*3+1,none⟩) hbb).trans c1;have d2:wr.cell? ⟨b,off+k*3+2,none⟩=some (.int .i64 l[k].bD):=(bG.out.cell (p:=⟨b,off+k*3+2,none⟩) hbb).trans c2;have hbr:b<wr.heap.size:=by omega
    have HNO:=ah (fun (h:fJ l[k]=false)=>(show C=1 by
     have h2:¬l.all fJ=true:=by
      intro h3;rw [List.all_eq_true.1 h3 _ (List.getElem_mem hlt)] at h;cases h
     rw [nQ.out,if_neg h2]))
    have uU:=ah (show (l.take (k+1)).all fJ=((l.take k).all fJ&&fJ l[k]) by rw [List.take_succ_eq_append_getElem hlt,List.all_append];simp);have iG:=ah (show fJ l[k]=(bU l[k].lv 0 65535&&bU l[k].hold 0 3600000&&bU l[k].bD 0 3600000) from rfl);clear hbw c0 c1 c2;rcases Bool.eq_false_or_eq_true (bU l[k].lv 0 65535) with m0 | m0;rotate_left
    ·have HV:=ah (HNO.out (by rw [iG.out];simp [*]));go_wp2_with (first | (go_at_call 31;((with_reducible refine (aU _ _ _ _).mono ?_);rintro e w' ⟨rfl,rfl⟩)) | (go_at_call 38;((with_reducible refine (bC _ _).mono ?_);rintro e w' ⟨rfl,rfl⟩)) | (go_at_call 17;((with_reducible refine (bX _ _ _).mono ?_);rintro e w' ⟨rfl,rfl⟩)) | fail);all_goals go_ret
     all_goals exact ⟨by rw [HV.out]<;>rfl,bG.out.alloc (by omega) _⟩
    rcases Bool.eq_false_or_eq_true (bU l[k].hold 0 3600000) with m1 | m1;rotate_left
    ·have HV:=ah (HNO.out (by rw [iG.out];simp [*]));go_wp2_with (first | (go_at_call 31;((with_reducible refine (aU _ _ _ _).mono ?_);rintro e w' ⟨rfl,rfl⟩)) | (go_at_call 38;((with_reducible refine (bC _ _).mono ?_);rintro e w' ⟨rfl,rfl⟩)) | (go_at_call 17;((with_reducible refine (bX _ _ _).mono ?_);rintro e w' ⟨rfl,rfl⟩)) | fail);all_goals go_ret
     all_goals exact ⟨by rw [HV.out]<;>rfl,bG.out.alloc (by omega) _⟩
    rcases Bool.eq_false_or_eq_true (bU l[k].bD 0 3600000) with m2 | m2;rotate_left
    ·have HV:=ah (HNO.out (by rw [iG.out];simp [*]));go_wp2_with (first | (go_at_call 31;((with_reducible refine (aU _ _ _ _).mono ?_);rintro e w' ⟨rfl,rfl⟩)) | (go_at_call 38;((with_reducible refine (bC _ _).mono ?_);rintro e w' ⟨rfl,rfl⟩)) | (go_at_call 17;((with_reducible refine (bX _ _ _).mono ?_);rintro e w' ⟨rfl,rfl⟩)) | fail);all_goals go_ret
     all_goals exact ⟨by rw [HV.out]<;>rfl,bG.out.alloc (by omega) _⟩
    have HQ:=ah (show (l.take (k+1)).all fJ=true by rw [uU.out,HAK.out,iG.out,m0,m1,m2];rfl);go_wp2_with (first | (go_at_call 31;((with_reducible refine (aU _ _ _ _).mono ?_);rintro e w' ⟨rfl,rfl⟩)) | (go_at_call 38;((with_reducible refine (bC _ _).mono ?_);rintro e w' ⟨rfl,rfl⟩)) | (go_at_call 17;((with_reducible refine (bX _ _ _).mono ?_);rintro e w' ⟨rfl,rfl⟩)) | fail);go_roundw
    case rel=>
     first
      | exact ⟨k+1,by omega,by go_num,HQ,HB.out.alloc (by omega) _⟩
      | ((repeat apply Exists.intro);refine ⟨⟨k+1,by omega,by go_num,HQ,HB.out.alloc (by omega) _⟩,?_⟩;rfl)
    case measure=>simp [intOf];omega
   ·have hkk:k=l.length:=by omega
    have hall:=HAK.out;rw [hkk,List.take_length] at hall;obtain ⟨e0,e1,e2,e3,e4,e5,e6,e7,e8⟩:=dN.out wr hbw;have hwb:w.heap.size<wr.heap.size:=by omega
    have CY2:=ah (CY.out wr bG.out l5' hall (by first | trivial | omega) (by first | trivial | rfl));rw [show (0:Int)+cK l=cK l by omega] at CY2;have HCZ:=ah (show C=jN (!bU (cK l) 1 3600000) 1 by rw [nQ.out,if_pos hall];unfold jN;cases bU (cK l) 1 3600000<;>rfl);subst hkk;generalize cK l=sm at *;clear hbw hall HAK HB;go_wp2_with fail;refine CY2.out.mono ?_;rintro e wE ⟨rfl,hbE⟩;have gV:=ah (show Below w.heap.size w wE from bG.out.trans (hbE.mono (by omega)));clear hbE e0 e1 e2 e3 e4 e5 e6 e7 e8;go_wp2_with (first | (go_at_call 31;((with_reducible refine (aU _ _ _ _).mono ?_);rintro e w' ⟨rfl,rfl⟩)) | (go_at_call 38;((with_reducible refine (bC _ _).mono ?_);rintro e w' ⟨rfl,rfl⟩)) | (go_at_call 17;((with_reducible refine (bX _ _ _).mono ?_);rintro e w' ⟨rfl,rfl⟩)) | fail);all_goals go_ret
    all_goals exact ⟨by rw [HCZ.out]<;>rfl,gV.out⟩
 have f4':(aJ==4)=false:=by simp [f4]
 have f4'':(aJ !=4)=true:=by simp [f4]
 have f7':(aJ==7)=false:=by simp [f7]
 have f7'':(aJ !=7)=true:=by simp [f7]
 go_enter Tryz.func37,Tryz.ntmps37;rcases Bool.eq_false_or_eq_true (bU aJ 1 7) with fb | fb;rotate_left
 ·skip;have HV:=ah (show C=4 by rw [HC.out];simp [dD,dW, *]);go_wp2_with (first | (go_at_call 31;((with_reducible refine (aU _ _ _ _).mono ?_);rintro e w' ⟨rfl,rfl⟩)) | (go_at_call 38;((with_reducible refine (bC _ _).mono ?_);rintro e w' ⟨rfl,rfl⟩)) | (go_at_call 17;((with_reducible refine (bX _ _ _).mono ?_);rintro e w' ⟨rfl,rfl⟩)) | fail);all_goals go_ret
  all_goals exact ⟨by rw [HV.out]<;>rfl,(Below.refl _ _).alloc (Nat.le_refl _) _⟩
 go_upto_region 4 with (first | (go_at_call 31;((with_reducible refine (aU _ _ _ _).mono ?_);rintro e w' ⟨rfl,rfl⟩)) | (go_at_call 38;((with_reducible refine (bC _ _).mono ?_);rintro e w' ⟨rfl,rfl⟩)) | (go_at_call 17;((with_reducible refine (bX _ _ _).mono ?_);rintro e w' ⟨rfl,rfl⟩)) | fail);by_cases w0:av=0;rotate_left
 ·have w1:(av !=0)=true:=by simp [w0]
  have HV:=ah (show C=3 by rw [HC.out];simp [dD,dW, *]);go_wp2_with (first | (go_at_call 31;((with_reducible refine (aU _ _ _ _).mono ?_);rintro e w' ⟨rfl,rfl⟩)) | (go_at_call 38;((with_reducible refine (bC _ _).mono ?_);rintro e w' ⟨rfl,rfl⟩)) | (go_at_call 17;((with_reducible refine (bX _ _ _).mono ?_);rintro e w' ⟨rfl,rfl⟩)) | fail);all_goals go_ret
  all_goals exact ⟨by rw [HV.out]<;>rfl,(Below.refl _ _).alloc (Nat.le_refl _) _⟩
 subst w0;rcases Nat.eq_zero_or_pos l.length with l0 | l0;rotate_left
 ·have l0':¬l.length=0:=by omega
  have HV:=ah (show C=3 by rw [HC.out];simp [dD,dW, *]);go_wp2_with (first | (go_at_call 31;((with_reducible refine (aU _ _ _ _).mono ?_);rintro e w' ⟨rfl,rfl⟩)) | (go_at_call 38;((with_reducible refine (bC _ _).mono ?_);rintro e w' ⟨rfl,rfl⟩)) | (go_at_call 17;((with_reducible refine (bX _ _ _).mono ?_);rintro e w' ⟨rfl,rfl⟩)) | fail);all_goals go_ret
  all_goals exact ⟨by rw [HV.out]<;>rfl,(Below.refl _ _).alloc (Nat.le_refl _) _⟩
 go_upto_region 6 with (first | (go_at_call 31;((with_reducible refine (aU _ _ _ _).mono ?_);rintro e w' ⟨rfl,rfl⟩)) | (go_at_call 38;((with_reducible refine (bC _ _).mono ?_);rintro e w' ⟨rfl,rfl⟩)) | (go_at_call 17;((with_reducible refine (bX _ _ _).mono ?_);rintro e w' ⟨rfl,rfl⟩)) | fail);rcases Bool.eq_false_or_eq_true (bU low 0 65535) with k1 | k1;rotate_left
 ·skip;have HV:=ah (show C=1 by rw [HC.out];simp [dD,dW, *]);go_wp2_with (first | (go_at_call 31;((with_reducible refine (aU _ _ _ _).mono ?_);rintro e w' ⟨rfl,rfl⟩)) | (go_at_call 38;((with_reducible refine (bC _ _).mono ?_);rintro e w' ⟨rfl,rfl⟩)) | (go_at_call 17;((with_reducible refine (bX _ _ _).mono ?_);rintro e w' ⟨rfl,rfl⟩)) | fail);all_goals go_ret
  all_goals exact ⟨by rw [HV.out]<;>rfl,(Below.refl _ _).alloc (Nat.le_refl _) _⟩
 rcases Bool.eq_false_or_eq_true (bU aC 0 65535) with k2 | k2;rotate_left
 ·skip;have HV:=ah (show C=1 by rw [HC.out];simp [dD,dW, *]);go_wp2_with (first | (go_at_call 31;((with_reducible refine (aU _ _ _ _).mono ?_);rintro e w' ⟨rfl,rfl⟩)) | (go_at_call 38;((with_reducible refine (bC _ _).mono ?_);rintro e w' ⟨rfl,rfl⟩)) | (go_at_call 17;((with_reducible refine (bX _ _ _).mono ?_);rintro e w' ⟨rfl,rfl⟩)) | fail);all_goals go_ret
  all_goals exact ⟨by rw [HV.out]<;>rfl,(Below.refl _ _).alloc (Nat.le_refl _) _⟩
 by_cases k3:aC<low
 ·skip;have HV:=ah (show C=1 by rw [HC.out];simp [dD,dW, *]);go_wp2_with (first | (go_at_call 31;((with_reducible refine (aU _ _ _ _).mono ?_);rintro e w' ⟨rfl,rfl⟩)) | (go_at_call 38;((with_reducible refine (bC _ _).mono ?_);rintro e w' ⟨rfl,rfl⟩)) | (go_at_call 17;((with_reducible refine (bX _ _ _).mono ?_);rintro e w' ⟨rfl,rfl⟩)) | fail);all_goals go_ret
  all_goals exact ⟨by rw [HV.out]<;>rfl,(Below.refl _ _).alloc (Nat.le_refl _) _⟩
 have k3':low≤aC:=by omega
 go_upto_region 8 with (first | (go_at_call 31;((with_reducible refine (aU _ _ _ _).mono ?_);rintro e w' ⟨rfl,rfl⟩)) | (go_at_call 38;((with_reducible refine (bC _ _).mono ?_);rintro e w' ⟨rfl,rfl⟩)) | (go_at_call 17;((with_reducible refine (bX _ _ _).mono ?_);rintro e w' ⟨rfl,rfl⟩)) | fail);rcases Bool.eq_false_or_eq_true (bU ay 1 3600000) with k4 | k4;rotate_left
 ·skip;have HV:=ah (show C=1 by rw [HC.out];simp [dD,dW, *]);go_wp2_with (first | (go_at_call 31;((with_reducible refine (aU _ _ _ _).mono ?_);rintro e w' ⟨rfl,rfl⟩)) | (go_at_call 38;((with_reducible refine (bC _ _).mono ?_);rintro e w' ⟨rfl,rfl⟩)) | (go_at_call 17;((with_reducible refine (bX _ _ _).mono ?_);rintro e w' ⟨rfl,rfl⟩)) | fail);all_goals go_ret
  all_goals exact ⟨by rw [HV.out]<;>rfl,(Below.refl _ _).alloc (Nat.le_refl _) _⟩
 have k5:bU 0 0 1000=true:=by decide
 rcases Bool.eq_false_or_eq_true (bU ak (-10000) 10000) with k6 | k6;rotate_left
 ·skip;have HV:=ah (show C=1 by rw [HC.out];simp [dD,dW, *]);go_wp2_with (first | (go_at_call 31;((with_reducible refine (aU _ _ _ _).mono ?_);rintro e w' ⟨rfl,rfl⟩)) | (go_at_call 38;((with_reducible refine (bC _ _).mono ?_);rintro e w' ⟨rfl,rfl⟩)) | (go_at_call 17;((with_reducible refine (bX _ _ _).mono ?_);rintro e w' ⟨rfl,rfl⟩)) | fail);all_goals go_ret
  all_goals exact ⟨by rw [HV.out]<;>rfl,(Below.refl _ _).alloc (Nat.le_refl _) _⟩
 have HV:=ah (show C=0 by rw [HC.out];simp [dD,dW, *]);go_wp2_with (first | (go_at_call 31;((with_reducible refine (aU _ _ _ _).mono ?_);rintro e w' ⟨rfl,rfl⟩)) | (go_at_call 38;((with_reducible refine (bC _ _).mono ?_);rintro e w' ⟨rfl,rfl⟩)) | (go_at_call 17;((with_reducible refine (bX _ _ _).mono ?_);rintro e w' ⟨rfl,rfl⟩)) | fail);all_goals go_ret
 all_goals exact ⟨by rw [HV.out]<;>rfl,(Below.refl _ _).alloc (Nat.le_refl _) _⟩
end Go.Proofs.YtopmdeefcjdadaaGreat
