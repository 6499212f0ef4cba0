import Derived.Test.YtopmdeefcjdadaaGreatT41M00
import Derived.Test.YtopmdeefcjdadaaGreatT41M02
import Derived.Deep.DeepCutAuto
import Derived.Deep.QuietTactic
import Derived.BigQuiet
import Derived.RegionTactic
import Derived.Test.YtopmdeefcjdadaaGreatT41M03
import Derived.Deep.RegionWith
set_option linter.unusedVariables false
set_option linter.unusedSimpArgs false
set_option maxRecDepth 100000
set_option maxHeartbeats 32000000
namespace Go.Proofs.YtopmdeefcjdadaaGreat
open Go.RowKit
theorem BM (aJ low aC ay av ak:Int) (aH rel:Bool) (ao:Option Addr) (cap:Nat) (l:List Stp) (w:World) (hs:dV w.heap.size w ao l) (hmax:l.length≤maxLen) :
  Calls Tryz.prog 25 #[(.agg #[.int .i64 aJ,.int .i64 low,.int .i64 aC,.int .i64 ay,.int .i64 av,.int .i64 ak,.bool aH,.bool rel,.slice ao l.length cap])] w fun e w'=>e=.returned (.int .i64 (dD aJ low aC ay av ak l))∧Below w.heap.size w w':=by
 unfold maxLen at hmax;have HS:=ah hs;clear hs;have CY:=ah (fun (W:World) (hB:Below w.heap.size w W) (h1:l.length≤50) (h2:l.all fJ=true) (h3:0≤ay∧ay≤3600000) (h7:aJ=7)=>yE aJ low aC ay av ak aH rel ao cap l W h7 (fun hne=>by obtain ⟨b,off,k1,k2,k3⟩:=HS.out hne;exact ⟨b,off,k1,Nat.lt_of_lt_of_le k2 hB.size,fun i hi=>⟨(hB.cell (p:=⟨b,off+i*3,none⟩) k2).trans (k3 i hi).1,(hB.cell (p:=⟨b,off+i*3+1,none⟩) k2).trans (k3 i hi).2.1,(hB.cell (p:=⟨b,off+i*3+2,none⟩) k2).trans (k3 i hi).2.2⟩⟩) h1 h2 h3);generalize hC:dD aJ low aC ay av ak l=C;have HC:=ah hC.symm;clear hC;by_cases f4:aJ=4
 ·subst f4;have fb:bU 4 1 7=true:=by decide
  go_enter Tryz.func25,Tryz.ntmps25;go_upto_region 4 with (first | (go_at_call 45;((with_reducible refine (aQ _ _ _ _).mono ?_);rintro e w' ⟨rfl,rfl⟩)) | (go_at_call 44;((with_reducible refine (bf _ _).mono ?_);rintro e w' ⟨rfl,rfl⟩)) | fail);rcases Nat.eq_zero_or_pos l.length with l0 | l0;rotate_left
  ·have l0':¬l.length=0:=by omega
   have HV:=ah (show C=3 by rw [HC.out];simp [dD,dW, *]);go_wp2_with (first | (go_at_call 45;((with_reducible refine (aQ _ _ _ _).mono ?_);rintro e w' ⟨rfl,rfl⟩)) | (go_at_call 44;((with_reducible refine (bf _ _).mono ?_);rintro e w' ⟨rfl,rfl⟩)) | fail);all_goals go_ret
   all_goals exact ⟨by rw [HV.out]<;>rfl,(Below.refl _ _).alloc (Nat.le_refl _) _⟩
  go_upto_region 6 with (first | (go_at_call 45;((with_reducible refine (aQ _ _ _ _).mono ?_);rintro e w' ⟨rfl,rfl⟩)) | (go_at_call 44;((with_reducible refine (bf _ _).mono ?_);rintro e w' ⟨rfl,rfl⟩)) | fail);rcases Bool.eq_false_or_eq_true (bU low 0 65535) with k1 | k1;rotate_left
  ·skip;have HV:=ah (show C=1 by rw [HC.out];simp [dD,dW, *]);go_wp2_with (first | (go_at_call 45;((with_reducible refine (aQ _ _ _ _).mono ?_);rintro e w' ⟨rfl,rfl⟩)) | (go_at_call 44;((with_reducible refine (bf _ _).mono ?_);rintro e w' ⟨rfl,rfl⟩)) | fail);all_goals go_ret
   all_goals exact ⟨by rw [HV.out]<;>rfl,(Below.refl _ _).alloc (Nat.le_refl _) _⟩
  rcases Bool.eq_false_or_eq_true (bU aC 0 65535) with k2 | k2;rotate_left
  ·skip;have HV:=ah (show C=1 by rw [HC.out];simp [dD,dW, *]);go_wp2_with (first | (go_at_call 45;((with_reducible refine (aQ _ _ _ _).mono ?_);rintro e w' ⟨rfl,rfl⟩)) | (go_at_call 44;((with_reducible refine (bf _ _).mono ?_);rintro e w' ⟨rfl,rfl⟩)) | fail);all_goals go_ret
   all_goals exact ⟨by rw [HV.out]<;>rfl,(Below.refl _ _).alloc (Nat.le_refl _) _⟩
  by_cases k3:aC<low
  ·skip;have HV:=ah (show C=1 by rw [HC.out];simp [dD,dW, *]);go_wp2_with (first | (go_at_call 45;((with_reducible refine (aQ _ _ _ _).mono ?_);rintro e w' ⟨rfl,rfl⟩)) | (go_at_call 44;((with_reducible refine (bf _ _).mono ?_);rintro e w' ⟨rfl,rfl⟩)) | fail);all_goals go_ret
   all_goals exact ⟨by rw [HV.out]<;>rfl,(Below.refl _ _).alloc (Nat.le_refl _) _⟩
  have k3':low≤aC:=by omega
  go_upto_region 8 with (first | (go_at_call 45;((with_reducible refine (aQ _ _ _ _).mono ?_);rintro e w' ⟨rfl,rfl⟩)) | (go_at_call 44;((with_reducible refine (bf _ _).mono ?_);rintro e w' ⟨rfl,rfl⟩)) | fail);rcases Bool.eq_false_or_eq_true (bU ay 1 3600000) with k4 | k4;rotate_left
  ·skip;have HV:=ah (show C=1 by rw [HC.out];simp [dD,dW, *]);go_wp2_with (first | (go_at_call 45;((with_reducible refine (aQ _ _ _ _).mono ?_);rintro e w' ⟨rfl,rfl⟩)) | (go_at_call 44;((with_reducible refine (bf _ _).mono ?_);rintro e w' ⟨rfl,rfl⟩)) | fail);all_goals go_ret
   all_goals exact ⟨by rw [HV.out]<;>rfl,(Below.refl _ _).alloc (Nat.le_refl _) _⟩
  rcases Bool.eq_false_or_eq_true (bU av 0 1000) with k5 | k5;rotate_left
  ·skip;have HV:=ah (show C=1 by rw [HC.out];simp [dD,dW, *]);go_wp2_with (first | (go_at_call 45;((with_reducible refine (aQ _ _ _ _).mono ?_);rintro e w' ⟨rfl,rfl⟩)) | (go_at_call 44;((with_reducible refine (bf _ _).mono ?_);rintro e w' ⟨rfl,rfl⟩)) | fail);all_goals go_ret
   all_goals exact ⟨by rw [HV.out]<;>rfl,(Below.refl _ _).alloc (Nat.le_refl _) _⟩
  rcases Bool.eq_false_or_eq_true (bU ak (-10000) 10000) with k6 | k6;rotate_left
  ·skip;have HV:=ah (show C=1 by rw [HC.out];simp [dD,dW, *]);go_wp2_with (first | (go_at_call 45;((with_reducible refine (aQ _ _ _ _).mono ?_);rintro e w' ⟨rfl,rfl⟩)) | (go_at_call 44;((with_reducible refine (bf _ _).mono ?_);rintro e w' ⟨rfl,rfl⟩)) | fail);all_goals go_ret
   all_goals exact ⟨by rw [HV.out]<;>rfl,(Below.refl _ _).alloc (Nat.le_refl _) _⟩
  have HV:=ah (show C=0 by rw [HC.out];simp [dD,dW, *]);go_wp2_with (first | (go_at_call 45;((with_reducible refine (aQ _ _ _ _).mono ?_);rintro e w' ⟨rfl,rfl⟩)) | (go_at_call 44;((with_reducible refine (bf _ _).mono ?_);rintro e w' ⟨rfl,rfl⟩)) | fail);all_goals go_ret
  all_goals exact ⟨by rw [HV.out]<;>rfl,(Below.refl _ _).alloc (Nat.le_refl _) _⟩
 by_cases f7:aJ=7
 ·subst f7;have fb:bU 7 1 7=true:=by decide
  go_enter Tryz.func25,Tryz.ntmps25;go_upto_region 4 with (first | (go_at_call 45;((with_reducible refine (aQ _ _ _ _).mono ?_);rintro e w' ⟨rfl,rfl⟩)) | (go_at_call 44;((with_reducible refine (bf _ _).mono ?_);rintro e w' ⟨rfl,rfl⟩)) | fail);by_cases w0:av=0;rotate_left
  ·have w1:(av !=0)=true:=by simp [w0]
   have HV:=ah (show C=3 by rw [HC.out];simp [dD,dW, *]);go_wp2_with (first | (go_at_call 45;((with_reducible refine (aQ _ _ _ _).mono ?_);rintro e w' ⟨rfl,rfl⟩)) | (go_at_call 44;((with_reducible refine (bf _ _).mono ?_);rintro e w' ⟨rfl,rfl⟩)) | fail);all_goals go_ret
   all_goals exact ⟨by rw [HV.out]<;>rfl,(Below.refl _ _).alloc (Nat.le_refl _) _⟩
  subst w0;by_cases c0:ay=0;rotate_left
  ·have c1:(ay !=0)=true:=by simp [c0]
   have HV:=ah (show C=3 by rw [HC.out];simp [dD,dW, *]);go_wp2_with (first | (go_at_call 45;((with_reducible refine (aQ _ _ _ _).mono ?_);rintro e w' ⟨rfl,rfl⟩)) | (go_at_call 44;((with_reducible refine (bf _ _).mono ?_);rintro e w' ⟨rfl,rfl⟩)) | fail);all_goals go_ret
   all_goals exact ⟨by rw [HV.out]<;>rfl,(Below.refl _ _).alloc (Nat.le_refl _) _⟩
  subst c0;go_upto_region 6 with (first | (go_at_call 45;((with_reducible refine (aQ _ _ _ _).mono ?_);rintro e w' ⟨rfl,rfl⟩)) | (go_at_call 44;((with_reducible refine (bf _ _).mono ?_);rintro e w' ⟨rfl,rfl⟩)) | fail);rcases Bool.eq_false_or_eq_true (bU low 0 65535) with k1 | k1;rotate_left
  ·skip;have HV:=ah (show C=1 by rw [HC.out];simp [dD,dW, *]);go_wp2_with (first | (go_at_call 45;((with_reducible refine (aQ _ _ _ _).mono ?_);rintro e w' ⟨rfl,rfl⟩)) | (go_at_call 44;((with_reducible refine (bf _ _).mono ?_);rintro e w' ⟨rfl,rfl⟩)) | fail);all_goals go_ret
   all_goals exact ⟨by rw [HV.out]<;>rfl,(Below.refl _ _).alloc (Nat.le_refl _) _⟩
  rcases Bool.eq_false_or_eq_true (bU aC 0 65535) with k2 | k2;rotate_left
  ·skip;have HV:=ah (show C=1 by rw [HC.out];simp [dD,dW, *]);go_wp2_with (first | (go_at_call 45;((with_reducible refine (aQ _ _ _ _).mono ?_);rintro e w' ⟨rfl,rfl⟩)) | (go_at_call 44;((with_reducible refine (bf _ _).mono ?_);rintro e w' ⟨rfl,rfl⟩)) | fail);all_goals go_ret
   all_goals exact ⟨by rw [HV.out]<;>rfl,(Below.refl _ _).alloc (Nat.le_refl _) _⟩
  by_cases k3:aC<low
  ·skip;have HV:=ah (show C=1 by rw [HC.out];simp [dD,dW, *]);go_wp2_with (first | (go_at_call 45;((with_reducible refine (aQ _ _ _ _).mono ?_);rintro e w' ⟨rfl,rfl⟩)) | (go_at_call 44;((with_reducible refine (bf _ _).mono ?_);rintro e w' ⟨rfl,rfl⟩)) | fail);all_goals go_ret
   all_goals exact ⟨by rw [HV.out]<;>rfl,(Below.refl _ _).alloc (Nat.le_refl _) _⟩
  have k3':low≤aC:=by omega
  go_upto_region 8 with (first | (go_at_call 45;((with_reducible refine (aQ _ _ _ _).mono ?_);rintro e w' ⟨rfl,rfl⟩)) | (go_at_call 44;((with_reducible refine (bf _ _).mono ?_);rintro e w' ⟨rfl,rfl⟩)) | fail);have k5:bU 0 0 1000=true:=by decide
  rcases Bool.eq_false_or_eq_true (bU ak (-10000) 10000) with k6 | k6;rotate_left
  ·skip;have HV:=ah (show C=1 by rw [HC.out];simp [dD,dW, *]);go_wp2_with (first | (go_at_call 45;((with_reducible refine (aQ _ _ _ _).mono ?_);rintro e w' ⟨rfl,rfl⟩)) | (go_at_call 44;((with_reducible refine (bf _ _).mono ?_);rintro e w' ⟨rfl,rfl⟩)) | fail);all_goals go_ret
   all_goals exact ⟨by rw [HV.out]<;>rfl,(Below.refl _ _).alloc (Nat.le_refl _) _⟩
  rcases Nat.eq_zero_or_pos l.length with l0 | l0
  ·skip;have HV:=ah (show C=8 by rw [HC.out];simp [dD,dW, *]);go_wp2_with (first | (go_at_call 45;((with_reducible refine (aQ _ _ _ _).mono ?_);rintro e w' ⟨rfl,rfl⟩)) | (go_at_call 44;((with_reducible refine (bf _ _).mono ?_);rintro e w' ⟨rfl,rfl⟩)) | fail);all_goals go_ret
   all_goals exact ⟨by rw [HV.out]<;>rfl,(Below.refl _ _).alloc (Nat.le_refl _) _⟩
  have l0':¬l.length=0:=by omega
  have l0'':((l.length:Int)==0)=false:=by rw [beq_eq_false_iff_ne];omega
  by_cases l5:50<l.length
  ·skip;have HV:=ah (show C=2 by rw [HC.out];simp [dD,dW, *]);go_wp2_with (first | (go_at_call 45;((with_reducible refine (aQ _ _ _ _).mono ?_);rintro e w' ⟨rfl,rfl⟩)) | (go_at_call 44;((with_reducible refine (bf _ _).mono ?_);rintro e w' ⟨rfl,rfl⟩)) | fail);all_goals go_ret
   all_goals exact ⟨by rw [HV.out]<;>rfl,(Below.refl _ _).alloc (Nat.le_refl _) _⟩
  have l5':l.length≤50:=by omega
  obtain ⟨b,off,rfl,hbb,tN⟩:=HS.out (by intro h;subst h;simp at l0);have HC9:=ah tN;have nQ:=ah (show C=if l.all fJ=true then (if bU (cK l) 1 3600000=true then 0 else 1) else 1 by rw [HC.out];unfold dD;rw [show (0:Int)+cK l=cK l by omega];generalize bU (cK l) 1 3600000=cy;cases hst:l.all fJ<;>cases cy<;>simp [dW, *])
  have dN:=ah (show ∀W,Below (w.heap.size+1) (w.alloc (.cells #[.int .i64 7,.int .i64 low,.int .i64 aC,.int .i64 0,.int .i64 0,.int .i64 ak,.bool aH,.bool rel,.slice (some ⟨b,off,none⟩) l.length cap] 28)) W→(W.cell? ⟨w.heap.size,0,none⟩=some (.int .i64 7)∧W.cell? ⟨w.heap.size,1,none⟩=some (.int .i64 low)∧W.cell? ⟨w.heap.size,2,none⟩=some (.int .i64 aC)∧W.cell? ⟨w.heap.size,3,none⟩=some (.int .i64 0)∧W.cell? ⟨w.heap.size,4,none⟩=some (.int .i64 0)∧W.cell? ⟨w.heap.size,5,none⟩=some (.int .i64 ak)∧W.cell? ⟨w.heap.size,6,none⟩=some (.bool aH)∧W.cell? ⟨w.heap.size,7,none⟩=some (.bool rel)∧W.cell? ⟨w.heap.size,8,none⟩=some (.slice (some ⟨b,off,none⟩) l.length cap)) from fun W hW=>by
   refine ⟨?_,?_,?_,?_,?_,?_,?_,?_,?_⟩
   ·exact (hW.cell (p:=⟨w.heap.size,0,none⟩) (by simp)).trans (by simp [go_sem])
   ·exact (hW.cell (p:=⟨w.heap.size,1,none⟩) (by simp)).trans (by simp [go_sem])
   ·exact (hW.cell (p:=⟨w.heap.size,2,none⟩) (by simp)).trans (by simp [go_sem])
   ·exact (hW.cell (p:=⟨w.heap.size,3,none⟩) (by simp)).trans (by simp [go_sem])
   ·exact (hW.cell (p:=⟨w.heap.size,4,none⟩) (by simp)).trans (by simp [go_sem])
   ·exact (hW.cell (p:=⟨w.heap.size,5,none⟩) (by simp)).trans (by simp [go_sem])
   ·exact (hW.cell (p:=⟨w.heap.size,6,none⟩) (by simp)).trans (by simp [go_sem])
   ·exact (hW.cell (p:=⟨w.heap.size,7,none⟩) (by simp)).trans (by simp [go_sem])
   ·exact (hW.cell (p:=⟨w.heap.size,8,none⟩) (by simp)).trans (by simp [go_sem])
  )
  clear tN;go_wp2_with (first | (go_at_call 45;((with_reducible refine (aQ _ _ _ _).mono ?_);rintro e w' ⟨rfl,rfl⟩)) | (go_at_call 44;((with_reducible refine (bf _ _).mono ?_);rintro e w' ⟨rfl,rfl⟩)) | fail);go_loopw [95] (fun i wr=>∃k:Nat,k≤l.length∧i=.int .i64 k∧Hid ((l.take k).all fJ=true)∧Below (w.heap.size+1) (w.alloc (.cells #[.int .i64 7,.int .i64 low,.int .i64 aC,.int .i64 0,.int .i64 0,.int .i64 ak,.bool aH,.bool rel,.slice (some ⟨b,off,none⟩) l.length cap] 28)) wr) (fun i _=>l.length-(intOf i).toNat)
  case atStart=>exact ⟨0,Nat.zero_le _,rfl,ah (by simp),Below.refl _ _⟩
  case round=>
   obtain ⟨k,hk,rfl,HAK,hbw⟩:=hrel;have HB:=ah hbw;have bG:=ah (show Below w.heap.size w wr from ((Below.refl _ _).alloc (Nat.le_refl _) _).trans (hbw.mono (by omega)));have xL:=hbw.size;simp at xL;by_cases hlt:k<l.length
   ·obtain ⟨c0,c1,c2⟩:=HC9.out k hlt;have d0:wr.cell? ⟨b,off+k*3,none⟩=some (.int .i64 l[k].lv):=(bG.out.cell (p:=⟨b,off+k*3,none⟩) hbb).trans c0;have d1:wr.cell? ⟨b,off+k*3+1,none⟩=some (.int .i64 l[k].hold):=(bG.out.cell (p:=⟨b,off+k*3+1,none⟩) hbb).trans c1;have d2:wr.cell? ⟨b,off+k*3+2,none⟩=some (.int .i64 l[k].bD):=(bG.out.cell (p:=⟨b,off+k*3+2,none⟩) hbb).trans c2;have hbr:b<wr.heap.size:=by omega
    have HNO:=ah (fun (h:fJ l[k]=false)=>(show C=1 by
     have h2:¬l.all fJ=true:=by
      intro h3;rw [List.all_eq_true.1 h3 _ (List.getElem_mem hlt)] at h;cases h
     rw [nQ.out,if_neg h2]))
    have uU:=ah (show (l.take (k+1)).all fJ=((l.take k).all fJ&&fJ l[k]) by rw [List.take_succ_eq_append_getElem hlt,List.all_append];simp);have iG:=ah (show fJ l[k]=(bU l[k].lv 0 65535&&bU l[k].hold 0 3600000&&bU l[k].bD 0 3600000) from rfl);clear hbw c0 c1 c2;rcases Bool.eq_false_or_eq_true (bU l[k].lv 0 65535) with m0 | m0;rotate_left
    ·have HV:=ah (HNO.out (by rw [iG.out];simp [*]));go_wp2_with (first | (go_at_call 45;((with_reducible refine (aQ _ _ _ _).mono ?_);rintro e w' ⟨rfl,rfl⟩)) | (go_at_call 44;((with_reducible refine (bf _ _).mono ?_);rintro e w' ⟨rfl,rfl⟩)) | fail);all_goals go_ret
     all_goals exact ⟨by rw [HV.out]<;>rfl,bG.out.alloc (by omega) _⟩
    rcases Bool.eq_false_or_eq_true (bU l[k].hold 0 3600000) with m1 | m1;rotate_left
    ·have HV:=ah (HNO.out (by rw [iG.out];simp [*]));go_wp2_with (first | (go_at_call 45;((with_reducible refine (aQ _ _ _ _).mono ?_);rintro e w' ⟨rfl,rfl⟩)) | (go_at_call 44;((with_reducible refine (bf _ _).mono ?_);rintro e w' ⟨rfl,rfl⟩)) | fail);all_goals go_ret
     all_goals exact ⟨by rw [HV.out]<;>rfl,bG.out.alloc (by omega) _⟩
    rcases Bool.eq_false_or_eq_true (bU l[k].bD 0 3600000) with m2 | m2;rotate_left
    ·have HV:=ah (HNO.out (by rw [iG.out];simp [*]));go_wp2_with (first | (go_at_call 45;((with_reducible refine (aQ _ _ _ _).mono ?_);rintro e w' ⟨rfl,rfl⟩)) | (go_at_call 44;((with_reducible refine (bf _ _).mono ?_);rintro e w' ⟨rfl,rfl⟩)) | fail);all_goals go_ret
     all_goals exact ⟨by rw [HV.out]<;>rfl,bG.out.alloc (by omega) _⟩
    have HQ:=ah (show (l.take (k+1)).all fJ=true by rw [uU.out,HAK.out,iG.out,m0,m1,m2];rfl);go_wp2_with (first | (go_at_call 45;((with_reducible refine (aQ _ _ _ _).mono ?_);rintro e w' ⟨rfl,rfl⟩)) | (go_at_call 44;((with_reducible refine (bf _ _).mono ?_);rintro e w' ⟨rfl,rfl⟩)) | fail);go_roundw
    case rel=>
     first
      | exact ⟨k+1,by omega,by go_num,HQ,HB.out.alloc (by omega) _⟩
      | ((repeat apply Exists.intro);refine ⟨⟨k+1,by omega,by go_num,HQ,HB.out.alloc (by omega) _⟩,?_⟩;rfl)
    case measure=>simp [intOf];omega
   ·have hkk:k=l.length:=by omega
    have hall:=HAK.out;rw [hkk,List.take_length] at hall;obtain ⟨e0,e1,e2,e3,e4,e5,e6,e7,e8⟩:=dN.out wr hbw;have hwb:w.heap.size<wr.heap.size:=by omega
    have CY2:=ah (CY.out wr bG.out l5' hall (by first | trivial | omega) (by first | trivial | rfl));have HCZ:=ah (show C=jN (!bU (cK l) 1 3600000) 1 by rw [nQ.out,if_pos hall];unfold jN;cases bU (cK l) 1 3600000<;>rfl);subst hkk;generalize cK l=sm at *;clear hbw hall HAK HB;go_wp2_with fail;refine CY2.out.mono ?_;rintro e wE ⟨rfl,hbE⟩;have gV:=ah (show Below w.heap.size w wE from bG.out.trans (hbE.mono (by omega)));clear hbE e0 e1 e2 e3 e4 e5 e6 e7 e8;rcases Bool.eq_false_or_eq_true (bU sm 1 3600000) with m3 | m3
    all_goals
     rw [m3] at HCZ;go_wp2_with (first | (go_at_call 45;((with_reducible refine (aQ _ _ _ _).mono ?_);rintro e w' ⟨rfl,rfl⟩)) | (go_at_call 44;((with_reducible refine (bf _ _).mono ?_);rintro e w' ⟨rfl,rfl⟩)) | fail);all_goals go_ret
     all_goals exact ⟨by rw [HCZ.out]<;>rfl,gV.out⟩
 have f4':(aJ==4)=false:=by simp [f4]
 have f4'':(aJ !=4)=true:=by simp [f4]
 have f7':(aJ==7)=false:=by simp [f7]
 have f7'':(aJ !=7)=true:=by simp [f7]
 go_enter Tryz.func25,Tryz.ntmps25;rcases Bool.eq_false_or_eq_true (bU aJ 1 7) with fb | fb;rotate_left
 ·skip;have HV:=ah (show C=4 by rw [HC.out];simp [dD,dW, *]);go_wp2_with (first | (go_at_call 45;((with_reducible refine (aQ _ _ _ _).mono ?_);rintro e w' ⟨rfl,rfl⟩)) | (go_at_call 44;((with_reducible refine (bf _ _).mono ?_);rintro e w' ⟨rfl,rfl⟩)) | fail);all_goals go_ret
  all_goals exact ⟨by rw [HV.out]<;>rfl,(Below.refl _ _).alloc (Nat.le_refl _) _⟩
 go_upto_region 4 with (first | (go_at_call 45;((with_reducible refine (aQ _ _ _ _).mono ?_);rintro e w' ⟨rfl,rfl⟩)) | (go_at_call 44;((with_reducible refine (bf _ _).mono ?_);rintro e w' ⟨rfl,rfl⟩)) | fail);by_cases w0:av=0;rotate_left
 ·have w1:(av !=0)=true:=by simp [w0]
  have HV:=ah (show C=3 by rw [HC.out];simp [dD,dW, *]);go_wp2_with (first | (go_at_call 45;((with_reducible refine (aQ _ _ _ _).mono ?_);rintro e w' ⟨rfl,rfl⟩)) | (go_at_call 44;((with_reducible refine (bf _ _).mono ?_);rintro e w' ⟨rfl,rfl⟩)) | fail);all_goals go_ret
  all_goals exact ⟨by rw [HV.out]<;>rfl,(Below.refl _ _).alloc (Nat.le_refl _) _⟩
 subst w0;rcases Nat.eq_zero_or_pos l.length with l0 | l0;rotate_left
 ·have l0':¬l.length=0:=by omega
  have HV:=ah (show C=3 by rw [HC.out];simp [dD,dW, *]);go_wp2_with (first | (go_at_call 45;((with_reducible refine (aQ _ _ _ _).mono ?_);rintro e w' ⟨rfl,rfl⟩)) | (go_at_call 44;((with_reducible refine (bf _ _).mono ?_);rintro e w' ⟨rfl,rfl⟩)) | fail);all_goals go_ret
  all_goals exact ⟨by rw [HV.out]<;>rfl,(Below.refl _ _).alloc (Nat.le_refl _) _⟩
 go_upto_region 6 with (first | (go_at_call 45;((with_reducible refine (aQ _ _ _ _).mono ?_);rintro e w' ⟨rfl,rfl⟩)) | (go_at_call 44;((with_reducible refine (bf _ _).mono ?_);rintro e w' ⟨rfl,rfl⟩)) | fail);rcases Bool.eq_false_or_eq_true (bU low 0 65535) with k1 | k1;rotate_left
 ·skip;have HV:=ah (show C=1 by rw [HC.out];simp [dD,dW, *]);go_wp2_with (first | (go_at_call 45;((with_reducible refine (aQ _ _ _ _).mono ?_);rintro e w' ⟨rfl,rfl⟩)) | (go_at_call 44;((with_reducible refine (bf _ _).mono ?_);rintro e w' ⟨rfl,rfl⟩)) | fail);all_goals go_ret
  all_goals exact ⟨by rw [HV.out]<;>rfl,(Below.refl _ _).alloc (Nat.le_refl _) _⟩
 rcases Bool.eq_false_or_eq_true (bU aC 0 65535) with k2 | k2;rotate_left
 ·skip;have HV:=ah (show C=1 by rw [HC.out];simp [dD,dW, *]);go_wp2_with (first | (go_at_call 45;((with_reducible refine (aQ _ _ _ _).mono ?_);rintro e w' ⟨rfl,rfl⟩)) | (go_at_call 44;((with_reducible refine (bf _ _).mono ?_);rintro e w' ⟨rfl,rfl⟩)) | fail);all_goals go_ret
  all_goals exact ⟨by rw [HV.out]<;>rfl,(Below.refl _ _).alloc (Nat.le_refl _) _⟩
 by_cases k3:aC<low
 ·skip;have HV:=ah (show C=1 by rw [HC.out];simp [dD,dW, *]);go_wp2_with (first | (go_at_call 45;((with_reducible refine (aQ _ _ _ _).mono ?_);rintro e w' ⟨rfl,rfl⟩)) | (go_at_call 44;((with_reducible refine (bf _ _).mono ?_);rintro e w' ⟨rfl,rfl⟩)) | fail);all_goals go_ret
  all_goals exact ⟨by rw [HV.out]<;>rfl,(Below.refl _ _).alloc (Nat.le_refl _) _⟩
 have k3':low≤aC:=by omega
 go_upto_region 8 with (first | (go_at_call 45;((with_reducible refine (aQ _ _ _ _).mono ?_);rintro e w' ⟨rfl,rfl⟩)) | (go_at_call 44;((with_reducible refine (bf _ _).mono ?_);rintro e w' ⟨rfl,rfl⟩)) | fail);rcases Bool.eq_false_or_eq_true (bU ay 1 3600000) with k4 | k4;rotate_left
 ·skip;have HV:=ah (show C=1 by rw [HC.out];simp [dD,dW, *]);go_wp2_with (first | (go_at_call 45;((with_reducible refine (aQ _ _ _ _).mono ?_);rintro e w' ⟨rfl,rfl⟩)) | (go_at_call 44;((with_reducible refine (bf _ _).mono ?_);rintro e w' ⟨rfl,rfl⟩)) | fail);all_goals go_ret
  all_goals exact ⟨by rw [HV.out]<;>rfl,(Below.refl _ _).alloc (Nat.le_refl _) _⟩
 have k5:bU 0 0 1000=true:=by decide
 rcases Bool.eq_false_or_eq_true (bU ak (-10000) 10000) with k6 | k6;rotate_left
 ·skip;have HV:=ah (show C=1 by rw [HC.out];simp [dD,dW, *]);go_wp2_with (first | (go_at_call 45;((with_reducible refine (aQ _ _ _ _).mono ?_);rintro e w' ⟨rfl,rfl⟩)) | (go_at_call 44;((with_reducible refine (bf _ _).mono ?_);rintro e w' ⟨rfl,rfl⟩)) | fail);all_goals go_ret
  all_goals exact ⟨by rw [HV.out]<;>rfl,(Below.refl _ _).alloc (Nat.le_refl _) _⟩
 have HV:=ah (show C=0 by rw [HC.out];simp [dD,dW, *]);go_wp2_with (first | (go_at_call 45;((with_reducible refine (aQ _ _ _ _).mono ?_);rintro e w' ⟨rfl,rfl⟩)) | (go_at_call 44;((with_reducible refine (bf _ _).mono ?_);rintro e w' ⟨rfl,rfl⟩)) | fail);all_goals go_ret
 all_goals exact ⟨by rw [HV.out]<;>rfl,(Below.refl _ _).alloc (Nat.le_refl _) _⟩
theorem xB (aJ low aC ay av ak aA bO aM aO:Int) (aH rel:Bool) (so ko ro:Option Addr) (dI eG bK:Nat) (st:List Stp) (aN:List (Int×ByteArray)) (aI:List (Int×Int)) (w:World) (hx:zG w.heap.size w (.slice ro aI.length bK) aI) :
  Calls Tryz.prog 27 #[(.agg #[.int .i64 aJ,.int .i64 low,.int .i64 aC,.int .i64 ay,.int .i64 av,.int .i64 ak,.bool aH,.bool rel,.slice so st.length dI,.slice ko aN.length eG,.int .i64 aA,.slice ro aI.length bK,.int .i64 bO,.int .i64 aM,.int .i64 aO])] w fun e w'=>e=.returned (.int .i64 (pU aA bO aM aO aI))∧Below w.heap.size w w':=by
 have HR:=ah (fun k (h:k<aI.length)=>rT hx k h)
 have hr2:aI.length≤maxLen:=by
  obtain ⟨_,_,_,h1,h2,_⟩:=hx;omega
 unfold maxLen at hr2;clear hx;have Dr:=ah (show pU aA bO aM aO aI=(if mX aA bO aM aO then 1 else if decide (aM=-1)&&decide (aO≠0) then 3 else if 50<aI.length then 2 else rF aA none aI) from rfl);have HB1:=ah (show mX aA bO aM aO=(!bU aA 0 36000000||!bU bO 0 36000000||!bU aO 0 36000000||(decide (aM≠-1)&&!bU aM aA 36000000)) from rfl);generalize pU aA bO aM aO aI=RES at *;have KC:=ah (rR w (.int .i64 aJ) (.int .i64 low) (.int .i64 aC) (.int .i64 ay) (.int .i64 av) (.int .i64 ak) (.bool aH) (.bool rel) (.slice so st.length dI) (.slice ko aN.length eG) (.int .i64 aA) (.slice ro aI.length bK) (.int .i64 bO) (.int .i64 aM) (.int .i64 aO) 32);have KA:=ah (show ∀W o,Below (w.heap.size+1) (w.alloc (.cells #[.int .i64 aJ,.int .i64 low,.int .i64 aC,.int .i64 ay,.int .i64 av,.int .i64 ak,.bool aH,.bool rel,.slice so st.length dI,.slice ko aN.length eG,.int .i64 aA,.slice ro aI.length bK,.int .i64 bO,.int .i64 aM,.int .i64 aO] 32)) W→Below (w.heap.size+1) (w.alloc (.cells #[.int .i64 aJ,.int .i64 low,.int .i64 aC,.int .i64 ay,.int .i64 av,.int .i64 ak,.bool aH,.bool rel,.slice so st.length dI,.slice ko aN.length eG,.int .i64 aA,.slice ro aI.length bK,.int .i64 bO,.int .i64 aM,.int .i64 aO] 32)) (W.alloc o) from fun W o h=>h.alloc (by have:=h.size;simp at this;omega) o);go_enter Tryz.func27,Tryz.ntmps27;go_upto_region 1 with fail;have HBW0:Below (w.heap.size+1) (w.alloc (.cells #[.int .i64 aJ,.int .i64 low,.int .i64 aC,.int .i64 ay,.int .i64 av,.int .i64 ak,.bool aH,.bool rel,.slice so st.length dI,.slice ko aN.length eG,.int .i64 aA,.slice ro aI.length bK,.int .i64 bO,.int .i64 aM,.int .i64 aO] 32)) (w.alloc (.cells #[.int .i64 aJ,.int .i64 low,.int .i64 aC,.int .i64 ay,.int .i64 av,.int .i64 ak,.bool aH,.bool rel,.slice so st.length dI,.slice ko aN.length eG,.int .i64 aA,.slice ro aI.length bK,.int .i64 bO,.int .i64 aM,.int .i64 aO] 32)):=Below.refl _ _;generalize hwr:(w.alloc (.cells #[.int .i64 aJ,.int .i64 low,.int .i64 aC,.int .i64 ay,.int .i64 av,.int .i64 ak,.bool aH,.bool rel,.slice so st.length dI,.slice ko aN.length eG,.int .i64 aA,.slice ro aI.length bK,.int .i64 bO,.int .i64 aM,.int .i64 aO] 32))=wr;have bG:=ah (show Below (w.heap.size+1) (w.alloc (.cells #[.int .i64 aJ,.int .i64 low,.int .i64 aC,.int .i64 ay,.int .i64 av,.int .i64 ak,.bool aH,.bool rel,.slice so st.length dI,.slice ko aN.length eG,.int .i64 aA,.slice ro aI.length bK,.int .i64 bO,.int .i64 aM,.int .i64 aO] 32)) wr by rw [←hwr];exact HBW0);clear hwr HBW0;obtain ⟨hB2,hz3,q0,q1,q2,q3,q4,q5,q6,q7,q8,q9,jH,kJ,lu,lY,lX⟩:=KC.out _ bG.out;go_cut [33] (fun s33 wx=>s33=.bool (mX aA bO aM aO)∧wr=wx)
 case first=>
  rcases Bool.eq_false_or_eq_true (bU aA 0 36000000) with k0 | k0;rotate_left
  ·skip;have HV:=ah (show mX aA bO aM aO=true by rw [HB1.out];simp [*]);go_wp2_with (first | (go_at_call 22;((with_reducible refine (fZ _ _).mono ?_);rintro e w' ⟨rfl,rfl⟩)) | (go_at_call 45;((with_reducible refine (aQ _ _ _ _).mono ?_);rintro e w' ⟨rfl,rfl⟩)) | fail);all_goals go_meet
   all_goals exact ⟨by rw [HV.out]<;>rfl,rfl⟩
  rcases Bool.eq_false_or_eq_true (bU bO 0 36000000) with k1 | k1;rotate_left
  ·skip;have HV:=ah (show mX aA bO aM aO=true by rw [HB1.out];simp [*]);go_wp2_with (first | (go_at_call 22;((with_reducible refine (fZ _ _).mono ?_);rintro e w' ⟨rfl,rfl⟩)) | (go_at_call 45;((with_reducible refine (aQ _ _ _ _).mono ?_);rintro e w' ⟨rfl,rfl⟩)) | fail);all_goals go_meet
   all_goals exact ⟨by rw [HV.out]<;>rfl,rfl⟩
  rcases Bool.eq_false_or_eq_true (bU aO 0 36000000) with k2 | k2;rotate_left
  ·skip;have HV:=ah (show mX aA bO aM aO=true by rw [HB1.out];simp [*]);go_wp2_with (first | (go_at_call 22;((with_reducible refine (fZ _ _).mono ?_);rintro e w' ⟨rfl,rfl⟩)) | (go_at_call 45;((with_reducible refine (aQ _ _ _ _).mono ?_);rintro e w' ⟨rfl,rfl⟩)) | fail);all_goals go_meet
   all_goals exact ⟨by rw [HV.out]<;>rfl,rfl⟩
  by_cases ht:aM=-1
  ·subst ht;have HV:=ah (show mX aA bO (-1) aO=false by rw [HB1.out];simp [*]);go_wp2_with (first | (go_at_call 22;((with_reducible refine (fZ _ _).mono ?_);rintro e w' ⟨rfl,rfl⟩)) | (go_at_call 45;((with_reducible refine (aQ _ _ _ _).mono ?_);rintro e w' ⟨rfl,rfl⟩)) | fail);all_goals go_meet
   all_goals exact ⟨by rw [HV.out]<;>rfl,rfl⟩
  have ht1:(aM !=-1)=true:=by simp [ht]
  rcases Bool.eq_false_or_eq_true (bU aM aA 36000000) with k3 | k3;rotate_left
  ·skip;have HV:=ah (show mX aA bO aM aO=true by rw [HB1.out];simp [*]);go_wp2_with (first | (go_at_call 22;((with_reducible refine (fZ _ _).mono ?_);rintro e w' ⟨rfl,rfl⟩)) | (go_at_call 45;((with_reducible refine (aQ _ _ _ _).mono ?_);rintro e w' ⟨rfl,rfl⟩)) | fail);all_goals go_meet
   all_goals exact ⟨by rw [HV.out]<;>rfl,rfl⟩
  have HV:=ah (show mX aA bO aM aO=false by rw [HB1.out];simp [*]);go_wp2_with (first | (go_at_call 22;((with_reducible refine (fZ _ _).mono ?_);rintro e w' ⟨rfl,rfl⟩)) | (go_at_call 45;((with_reducible refine (aQ _ _ _ _).mono ?_);rintro e w' ⟨rfl,rfl⟩)) | fail);all_goals go_meet
  all_goals exact ⟨by rw [HV.out]<;>rfl,rfl⟩
 case rest=>
  obtain ⟨rfl,rfl⟩:=hcut;generalize mX aA bO aM aO=B1 at *;have HB2:=ah hB2;clear hB2;cases B1;rotate_left
  ·skip;have HV:=ah (show RES=1 by rw [Dr.out];rfl);go_wp2_with (first | (go_at_call 22;((with_reducible refine (fZ _ _).mono ?_);rintro e w' ⟨rfl,rfl⟩)) | (go_at_call 45;((with_reducible refine (aQ _ _ _ _).mono ?_);rintro e w' ⟨rfl,rfl⟩)) | fail);all_goals go_ret
   all_goals exact ⟨by rw [HV.out]<;>rfl,HB2.out⟩
  go_upto_region 3 with fail;go_cut [41] (fun s41 wx=>s41=.bool (decide (aM=-1)&&decide (aO≠0))∧wr=wx)
  case first=>
   by_cases ht:aM=-1
   ·by_cases hu:aO=0
    ·go_wp2_with fail;all_goals go_meet
     all_goals exact ⟨by simp [ht,hu],rfl⟩
    ·go_wp2_with fail;all_goals go_meet
     all_goals exact ⟨by simp [ht,hu],rfl⟩
   ·go_wp2_with fail;all_goals go_meet
    all_goals exact ⟨by simp [ht],rfl⟩
  case rest=>
   obtain ⟨rfl,rfl⟩:=hcut;generalize (decide (aM=-1)&&decide (aO≠0))=B2 at *;cases B2;rotate_left
   ·skip;have HV:=ah (show RES=3 by rw [Dr.out];rfl);go_wp2_with (first | (go_at_call 22;((with_reducible refine (fZ _ _).mono ?_);rintro e w' ⟨rfl,rfl⟩)) | (go_at_call 45;((with_reducible refine (aQ _ _ _ _).mono ?_);rintro e w' ⟨rfl,rfl⟩)) | fail);all_goals go_ret
    all_goals exact ⟨by rw [HV.out]<;>rfl,HB2.out⟩
   by_cases h50:50<aI.length
   ·skip;have HV:=ah (show RES=2 by rw [Dr.out];simp [h50]);go_wp2_with (first | (go_at_call 22;((with_reducible refine (fZ _ _).mono ?_);rintro e w' ⟨rfl,rfl⟩)) | (go_at_call 45;((with_reducible refine (aQ _ _ _ _).mono ?_);rintro e w' ⟨rfl,rfl⟩)) | fail);all_goals go_ret
    all_goals exact ⟨by rw [HV.out]<;>rfl,HB2.out⟩
   have I4:=ah (show RES=rF aA none aI by rw [Dr.out];simp [h50]);have h51:aI.length≤50:=by omega
   clear h50 Dr HB1;go_wp2_with fail;go_loopw [49] (fun i wx=>∃k:Nat,k≤aI.length∧i=.int .i64 k∧Hid (RES=rF aA (mK aI k) (aI.drop k))∧Hid (Below (w.heap.size+1) (w.alloc (.cells #[.int .i64 aJ,.int .i64 low,.int .i64 aC,.int .i64 ay,.int .i64 av,.int .i64 ak,.bool aH,.bool rel,.slice so st.length dI,.slice ko aN.length eG,.int .i64 aA,.slice ro aI.length bK,.int .i64 bO,.int .i64 aM,.int .i64 aO] 32)) wx)) (fun i _=>aI.length-(intOf i).toNat)
   case atStart=>exact ⟨0,Nat.zero_le _,rfl,ah I4.out,bG⟩
   case round=>
    clear bG HB2 hz3 q9 jH kJ lu lY lX;obtain ⟨k,hk2,rfl,iO,dN⟩:=hrel;obtain ⟨hB3,hz4,q0,q1,q2,q3,q4,q5,q6,q7,q8,q9,jH,kJ,lu,lY,lX⟩:=KC.out _ dN.out;by_cases hlt2:k<aI.length
    ·have HST:=ah (iO.out.trans (Jj aA aI k hlt2));obtain ⟨b,off,rfl,hbb,hc⟩:=HR.out k hlt2;obtain ⟨d0,d1⟩:=hc _ hB3;have hbr:=Nat.lt_of_lt_of_le hbb hB3.size;have qA:=ah hB3;clear hB3 iO hc;have MB:=ah (fun h0=>AP aI k h0 hlt2)
     have uT:=ah (fun (h0:0<k)=>show (∀W,Below w.heap.size w W→W.cell? ⟨b,off+(k-1)*2,none⟩=some (.int .i64 (aI[k-1]'(by omega)).1)) from by
      obtain ⟨b',off',e1,_,h3⟩:=HR.out (k-1) (by omega);injection e1 with e1;injection e1 with e2 e3;subst e2 e3;exact fun W hW=>(h3 W hW).1)
     generalize aI[k]=rk at *;obtain ⟨rt,rp⟩:=rk;simp only at d0 d1;rcases Bool.eq_false_or_eq_true (bU rt aA 36000000) with k0 | k0;rotate_left
     ·skip;have HV:=ah (show RES=1 by rw [HST.out];simp [k0]);go_wp2_with (first | (go_at_call 22;((with_reducible refine (fZ _ _).mono ?_);rintro e w' ⟨rfl,rfl⟩)) | (go_at_call 45;((with_reducible refine (aQ _ _ _ _).mono ?_);rintro e w' ⟨rfl,rfl⟩)) | fail);all_goals go_ret
      all_goals exact ⟨by rw [HV.out]<;>rfl,(KC.out _ (KA.out _ _ dN.out)).1⟩
     rcases Bool.eq_false_or_eq_true (bU rp 0 1000) with k1 | k1;rotate_left
     ·skip;have HV:=ah (show RES=1 by rw [HST.out];simp [k0,k1]);go_wp2_with (first | (go_at_call 22;((with_reducible refine (fZ _ _).mono ?_);rintro e w' ⟨rfl,rfl⟩)) | (go_at_call 45;((with_reducible refine (aQ _ _ _ _).mono ?_);rintro e w' ⟨rfl,rfl⟩)) | fail);all_goals go_ret
      all_goals exact ⟨by rw [HV.out]<;>rfl,(KC.out _ (KA.out _ _ dN.out)).1⟩
     by_cases h0:k=0
     ·subst h0;simp only [Nat.zero_mul,Nat.add_zero,Nat.zero_add] at d0 d1;have uU:=ah (show RES=rF aA (mK aI (0+1)) (aI.drop (0+1)) by rw [HST.out];simp [k0,k1,mK]);go_wp2_with (first | (go_at_call 22;((with_reducible refine (fZ _ _).mono ?_);rintro e w' ⟨rfl,rfl⟩)) | (go_at_call 45;((with_reducible refine (aQ _ _ _ _).mono ?_);rintro e w' ⟨rfl,rfl⟩)) | fail);go_quiet (fail)
      go_wp2_with fail;go_roundw
      case rel=>exact ⟨1,by omega,rfl,uU,ah (dF (KA.out _ _ dN.out) _)⟩
      case measure=>simp [intOf];omega
     ·have HPP:=ah (MB.out (by omega));have d2:=uT.out (by omega) _ qA.out;clear MB uT;generalize (aI[k-1]'(by omega))=rj at *;obtain ⟨jt,jp⟩:=rj;simp only at d2;obtain ⟨j,rfl⟩:∃j,k=j+1:=⟨k-1,by omega⟩;simp only [Nat.add_sub_cancel] at d2;have hji:((j+1:Nat):Int)-1=(j:Int):=by omega
      by_cases hle:rt≤jt
      ·skip;have HV:=ah (show RES=7 by rw [HST.out,HPP.out];simp [k0,k1,hle]);go_wp2_with (first | (go_at_call 22;((with_reducible refine (fZ _ _).mono ?_);rintro e w' ⟨rfl,rfl⟩)) | (go_at_call 45;((with_reducible refine (aQ _ _ _ _).mono ?_);rintro e w' ⟨rfl,rfl⟩)) | fail);go_quiet (fail)
       go_wp2_with fail;go_ret;exact ⟨by rw [HV.out]<;>rfl,dF (KC.out _ (KA.out _ _ dN.out)).1 _⟩
      ·have uU:=ah (show RES=rF aA (mK aI (j+1+1)) (aI.drop (j+1+1)) by rw [HST.out,HPP.out];simp [k0,k1,hle]);have OO:decide (rt≤jt)=false:=by simpa using hle
       go_wp2_with (first | (go_at_call 22;((with_reducible refine (fZ _ _).mono ?_);rintro e w' ⟨rfl,rfl⟩)) | (go_at_call 45;((with_reducible refine (aQ _ _ _ _).mono ?_);rintro e w' ⟨rfl,rfl⟩)) | fail);go_quiet (fail)
       go_wp2_with fail;go_roundw
       case rel=>exact ⟨j+1+1,by omega,by go_num,uU,ah (dF (KA.out _ _ dN.out) _)⟩
       case measure=>simp [intOf];omega
    ·have HV:=ah (show RES=0 by rw [iO.out,List.drop_of_length_le (by omega)];rfl);have qA:=ah hB3;clear hB3;go_wp2_with (first | (go_at_call 22;((with_reducible refine (fZ _ _).mono ?_);rintro e w' ⟨rfl,rfl⟩)) | (go_at_call 45;((with_reducible refine (aQ _ _ _ _).mono ?_);rintro e w' ⟨rfl,rfl⟩)) | fail);go_ret;exact ⟨by rw [HV.out]<;>rfl,qA.out⟩
theorem Ka {B:Nat} {w:World} {b off cap:Nat} {l:List (Int×ByteArray)} (k:Nat) (hk:k≤l.length) (hb:b<B) (h:∀j u,(mR l)[j]?=some u→w.cell? ⟨b,off+j,none⟩=some u):Ag B w (.slice (some ⟨b,off,none⟩) (l.take k).length cap) (l.take k).length (mR (l.take k)):=by
 refine ⟨_,_,rfl,fun _=>⟨b,off,rfl,hb,fun j u hu=>h j u ?_⟩⟩;unfold mR at hu ⊢;rw [←Fe] at hu;rw [List.getElem?_take] at hu;split at hu
 ·exact hu
 ·cases hu
end Go.Proofs.YtopmdeefcjdadaaGreat
