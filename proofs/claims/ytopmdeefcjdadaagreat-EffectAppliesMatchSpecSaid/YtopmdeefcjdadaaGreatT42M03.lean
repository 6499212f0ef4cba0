import Derived.Test.YtopmdeefcjdadaaGreatT42M00
import Derived.Test.YtopmdeefcjdadaaGreatT42M01
import Derived.Deep.DeepCutAuto
import Derived.Deep.QuietTactic
import Derived.BigQuiet
import Derived.RegionTactic
import Derived.Test.YtopmdeefcjdadaaGreatT42M02
import Derived.Deep.RegionWith
set_option linter.unusedVariables false
set_option linter.unusedSimpArgs false
set_option maxRecDepth 100000
set_option maxHeartbeats 32000000
namespace Go.Proofs.YtopmdeefcjdadaaGreat
open Go.RowKit
theorem Dr (aK low aD aA ay ak:Int) (aI rel:Bool) (ao:Option Addr) (cap:Nat) (l:List Stp) (w:World) (hs:eH w.heap.size w ao l) (hmax:l.length≤maxLen) :
  Calls Tryz.prog 25 #[(.agg #[.int .i64 aK,.int .i64 low,.int .i64 aD,.int .i64 aA,.int .i64 ay,.int .i64 ak,.bool aI,.bool rel,.slice ao l.length cap])] w fun e w'=>e=.returned (.int .i64 (dL aK low aD aA ay ak l))∧Below w.heap.size w w':=by
 unfold maxLen at hmax;have HS:=ah hs;clear hs;have CY:=ah (fun (W:World) (hB:Below w.heap.size w W) (h1:l.length≤50) (h2:l.all fV=true) (h3:0≤aA∧aA≤3600000) (h7:aK=7)=>zG aK low aD aA ay ak aI rel ao cap l W h7 (fun hne=>by obtain ⟨b,off,k1,k2,k3⟩:=HS.out hne;exact ⟨b,off,k1,Nat.lt_of_lt_of_le k2 hB.size,fun i hi=>⟨(hB.cell (p:=⟨b,off+i*3,none⟩) k2).trans (k3 i hi).1,(hB.cell (p:=⟨b,off+i*3+1,none⟩) k2).trans (k3 i hi).2.1,(hB.cell (p:=⟨b,off+i*3+2,none⟩) k2).trans (k3 i hi).2.2⟩⟩) h1 h2 h3);generalize hC:dL aK low aD aA ay ak l=C;have HC:=ah hC.symm;clear hC;by_cases f4:aK=4
 ·subst f4;have fb:bW 4 1 7=true:=by decide
  go_enter Tryz.func25,Tryz.ntmps25;go_upto_region 4 with (first | (go_at_call 45;((with_reducible refine (aR _ _ _ _).mono ?_);rintro e w' ⟨rfl,rfl⟩)) | (go_at_call 44;((with_reducible refine (bq _ _).mono ?_);rintro e w' ⟨rfl,rfl⟩)) | fail);rcases Nat.eq_zero_or_pos l.length with l0 | l0;rotate_left
  ·have l0':¬l.length=0:=by omega
   have HV:=ah (show C=3 by rw [HC.out];simp [dL,eT, *]);go_wp2_with (first | (go_at_call 45;((with_reducible refine (aR _ _ _ _).mono ?_);rintro e w' ⟨rfl,rfl⟩)) | (go_at_call 44;((with_reducible refine (bq _ _).mono ?_);rintro e w' ⟨rfl,rfl⟩)) | fail);all_goals go_ret
   all_goals exact ⟨by rw [HV.out]<;>rfl,(Below.refl _ _).alloc (Nat.le_refl _) _⟩
  go_upto_region 6 with (first | (go_at_call 45;((with_reducible refine (aR _ _ _ _).mono ?_);rintro e w' ⟨rfl,rfl⟩)) | (go_at_call 44;((with_reducible refine (bq _ _).mono ?_);rintro e w' ⟨rfl,rfl⟩)) | fail);rcases Bool.eq_false_or_eq_true (bW low 0 65535) with k1 | k1;rotate_left
  ·skip;have HV:=ah (show C=1 by rw [HC.out];simp [dL,eT, *]);go_wp2_with (first | (go_at_call 45;((with_reducible refine (aR _ _ _ _).mono ?_);rintro e w' ⟨rfl,rfl⟩)) | (go_at_call 44;((with_reducible refine (bq _ _).mono ?_);rintro e w' ⟨rfl,rfl⟩)) | fail);all_goals go_ret
   all_goals exact ⟨by rw [HV.out]<;>rfl,(Below.refl _ _).alloc (Nat.le_refl _) _⟩
  rcases Bool.eq_false_or_eq_true (bW aD 0 65535) with k2 | k2;rotate_left
  ·skip;have HV:=ah (show C=1 by rw [HC.out];simp [dL,eT, *]);go_wp2_with (first | (go_at_call 45;((with_reducible refine (aR _ _ _ _).mono ?_);rintro e w' ⟨rfl,rfl⟩)) | (go_at_call 44;((with_reducible refine (bq _ _).mono ?_);rintro e w' ⟨rfl,rfl⟩)) | fail);all_goals go_ret
   all_goals exact ⟨by rw [HV.out]<;>rfl,(Below.refl _ _).alloc (Nat.le_refl _) _⟩
  by_cases k3:aD<low
  ·skip;have HV:=ah (show C=1 by rw [HC.out];simp [dL,eT, *]);go_wp2_with (first | (go_at_call 45;((with_reducible refine (aR _ _ _ _).mono ?_);rintro e w' ⟨rfl,rfl⟩)) | (go_at_call 44;((with_reducible refine (bq _ _).mono ?_);rintro e w' ⟨rfl,rfl⟩)) | fail);all_goals go_ret
   all_goals exact ⟨by rw [HV.out]<;>rfl,(Below.refl _ _).alloc (Nat.le_refl _) _⟩
  have k3':low≤aD:=by omega
  go_upto_region 8 with (first | (go_at_call 45;((with_reducible refine (aR _ _ _ _).mono ?_);rintro e w' ⟨rfl,rfl⟩)) | (go_at_call 44;((with_reducible refine (bq _ _).mono ?_);rintro e w' ⟨rfl,rfl⟩)) | fail);rcases Bool.eq_false_or_eq_true (bW aA 1 3600000) with k4 | k4;rotate_left
  ·skip;have HV:=ah (show C=1 by rw [HC.out];simp [dL,eT, *]);go_wp2_with (first | (go_at_call 45;((with_reducible refine (aR _ _ _ _).mono ?_);rintro e w' ⟨rfl,rfl⟩)) | (go_at_call 44;((with_reducible refine (bq _ _).mono ?_);rintro e w' ⟨rfl,rfl⟩)) | fail);all_goals go_ret
   all_goals exact ⟨by rw [HV.out]<;>rfl,(Below.refl _ _).alloc (Nat.le_refl _) _⟩
  rcases Bool.eq_false_or_eq_true (bW ay 0 1000) with k5 | k5;rotate_left
  ·skip;have HV:=ah (show C=1 by rw [HC.out];simp [dL,eT, *]);go_wp2_with (first | (go_at_call 45;((with_reducible refine (aR _ _ _ _).mono ?_);rintro e w' ⟨rfl,rfl⟩)) | (go_at_call 44;((with_reducible refine (bq _ _).mono ?_);rintro e w' ⟨rfl,rfl⟩)) | fail);all_goals go_ret
   all_goals exact ⟨by rw [HV.out]<;>rfl,(Below.refl _ _).alloc (Nat.le_refl _) _⟩
  rcases Bool.eq_false_or_eq_true (bW ak (-10000) 10000) with k6 | k6;rotate_left
  ·skip;have HV:=ah (show C=1 by rw [HC.out];simp [dL,eT, *]);go_wp2_with (first | (go_at_call 45;((with_reducible refine (aR _ _ _ _).mono ?_);rintro e w' ⟨rfl,rfl⟩)) | (go_at_call 44;((with_reducible refine (bq _ _).mono ?_);rintro e w' ⟨rfl,rfl⟩)) | fail);all_goals go_ret
   all_goals exact ⟨by rw [HV.out]<;>rfl,(Below.refl _ _).alloc (Nat.le_refl _) _⟩
  have HV:=ah (show C=0 by rw [HC.out];simp [dL,eT, *]);go_wp2_with (first | (go_at_call 45;((with_reducible refine (aR _ _ _ _).mono ?_);rintro e w' ⟨rfl,rfl⟩)) | (go_at_call 44;((with_reducible refine (bq _ _).mono ?_);rintro e w' ⟨rfl,rfl⟩)) | fail);all_goals go_ret
  all_goals exact ⟨by rw [HV.out]<;>rfl,(Below.refl _ _).alloc (Nat.le_refl _) _⟩
 by_cases f7:aK=7
 ·subst f7;have fb:bW 7 1 7=true:=by decide
  go_enter Tryz.func25,Tryz.ntmps25;go_upto_region 4 with (first | (go_at_call 45;((with_reducible refine (aR _ _ _ _).mono ?_);rintro e w' ⟨rfl,rfl⟩)) | (go_at_call 44;((with_reducible refine (bq _ _).mono ?_);rintro e w' ⟨rfl,rfl⟩)) | fail);by_cases w0:ay=0;rotate_left
  ·have w1:(ay !=0)=true:=by simp [w0]
   have HV:=ah (show C=3 by rw [HC.out];simp [dL,eT, *]);go_wp2_with (first | (go_at_call 45;((with_reducible refine (aR _ _ _ _).mono ?_);rintro e w' ⟨rfl,rfl⟩)) | (go_at_call 44;((with_reducible refine (bq _ _).mono ?_);rintro e w' ⟨rfl,rfl⟩)) | fail);all_goals go_ret
   all_goals exact ⟨by rw [HV.out]<;>rfl,(Below.refl _ _).alloc (Nat.le_refl _) _⟩
  subst w0;by_cases c0:aA=0;rotate_left
  ·have c1:(aA !=0)=true:=by simp [c0]
   have HV:=ah (show C=3 by rw [HC.out];simp [dL,eT, *]);go_wp2_with (first | (go_at_call 45;((with_reducible refine (aR _ _ _ _).mono ?_);rintro e w' ⟨rfl,rfl⟩)) | (go_at_call 44;((with_reducible refine (bq _ _).mono ?_);rintro e w' ⟨rfl,rfl⟩)) | fail);all_goals go_ret
   all_goals exact ⟨by rw [HV.out]<;>rfl,(Below.refl _ _).alloc (Nat.le_refl _) _⟩
  subst c0;go_upto_region 6 with (first | (go_at_call 45;((with_reducible refine (aR _ _ _ _).mono ?_);rintro e w' ⟨rfl,rfl⟩)) | (go_at_call 44;((with_reducible refine (bq _ _).mono ?_);rintro e w' ⟨rfl,rfl⟩)) | fail);rcases Bool.eq_false_or_eq_true (bW low 0 65535) with k1 | k1;rotate_left
  ·skip;have HV:=ah (show C=1 by rw [HC.out];simp [dL,eT, *]);go_wp2_with (first | (go_at_call 45;((with_reducible refine (aR _ _ _ _).mono ?_);rintro e w' ⟨rfl,rfl⟩)) | (go_at_call 44;((with_reducible refine (bq _ _).mono ?_);rintro e w' ⟨rfl,rfl⟩)) | fail);all_goals go_ret
   all_goals exact ⟨by rw [HV.out]<;>rfl,(Below.refl _ _).alloc (Nat.le_refl _) _⟩
  rcases Bool.eq_false_or_eq_true (bW aD 0 65535) with k2 | k2;rotate_left
  ·skip;have HV:=ah (show C=1 by rw [HC.out];simp [dL,eT, *]);go_wp2_with (first | (go_at_call 45;((with_reducible refine (aR _ _ _ _).mono ?_);rintro e w' ⟨rfl,rfl⟩)) | (go_at_call 44;((with_reducible refine (bq _ _).mono ?_);rintro e w' ⟨rfl,rfl⟩)) | fail);all_goals go_ret
   all_goals exact ⟨by rw [HV.out]<;>rfl,(Below.refl _ _).alloc (Nat.le_refl _) _⟩
  by_cases k3:aD<low
  ·skip;have HV:=ah (show C=1 by rw [HC.out];simp [dL,eT, *]);go_wp2_with (first | (go_at_call 45;((with_reducible refine (aR _ _ _ _).mono ?_);rintro e w' ⟨rfl,rfl⟩)) | (go_at_call 44;((with_reducible refine (bq _ _).mono ?_);rintro e w' ⟨rfl,rfl⟩)) | fail);all_goals go_ret
   all_goals exact ⟨by rw [HV.out]<;>rfl,(Below.refl _ _).alloc (Nat.le_refl _) _⟩
  have k3':low≤aD:=by omega
  go_upto_region 8 with (first | (go_at_call 45;((with_reducible refine (aR _ _ _ _).mono ?_);rintro e w' ⟨rfl,rfl⟩)) | (go_at_call 44;((with_reducible refine (bq _ _).mono ?_);rintro e w' ⟨rfl,rfl⟩)) | fail);have k5:bW 0 0 1000=true:=by decide
  rcases Bool.eq_false_or_eq_true (bW ak (-10000) 10000) with k6 | k6;rotate_left
  ·skip;have HV:=ah (show C=1 by rw [HC.out];simp [dL,eT, *]);go_wp2_with (first | (go_at_call 45;((with_reducible refine (aR _ _ _ _).mono ?_);rintro e w' ⟨rfl,rfl⟩)) | (go_at_call 44;((with_reducible refine (bq _ _).mono ?_);rintro e w' ⟨rfl,rfl⟩)) | fail);all_goals go_ret
   all_goals exact ⟨by rw [HV.out]<;>rfl,(Below.refl _ _).alloc (Nat.le_refl _) _⟩
  rcases Nat.eq_zero_or_pos l.length with l0 | l0
  ·skip;have HV:=ah (show C=8 by rw [HC.out];simp [dL,eT, *]);go_wp2_with (first | (go_at_call 45;((with_reducible refine (aR _ _ _ _).mono ?_);rintro e w' ⟨rfl,rfl⟩)) | (go_at_call 44;((with_reducible refine (bq _ _).mono ?_);rintro e w' ⟨rfl,rfl⟩)) | fail);all_goals go_ret
   all_goals exact ⟨by rw [HV.out]<;>rfl,(Below.refl _ _).alloc (Nat.le_refl _) _⟩
  have l0':¬l.length=0:=by omega
  have l0'':((l.length:Int)==0)=false:=by rw [beq_eq_false_iff_ne];omega
  by_cases l5:50<l.length
  ·skip;have HV:=ah (show C=2 by rw [HC.out];simp [dL,eT, *]);go_wp2_with (first | (go_at_call 45;((with_reducible refine (aR _ _ _ _).mono ?_);rintro e w' ⟨rfl,rfl⟩)) | (go_at_call 44;((with_reducible refine (bq _ _).mono ?_);rintro e w' ⟨rfl,rfl⟩)) | fail);all_goals go_ret
   all_goals exact ⟨by rw [HV.out]<;>rfl,(Below.refl _ _).alloc (Nat.le_refl _) _⟩
  have l5':l.length≤50:=by omega
  obtain ⟨b,off,rfl,hbb,uM⟩:=HS.out (by intro h;subst h;simp at l0);have HC9:=ah uM;have qO:=ah (show C=if l.all fV=true then (if bW (dh l) 1 3600000=true then 0 else 1) else 1 by rw [HC.out];unfold dL;rw [show (0:Int)+dh l=dh l by omega];generalize bW (dh l) 1 3600000=cy;cases hst:l.all fV<;>cases cy<;>simp [eT, *])
  have dI:=ah (show ∀W,Below (w.heap.size+1) (w.alloc (.cells #[.int .i64 7,.int .i64 low,.int .i64 aD,.int .i64 0,.int .i64 0,.int .i64 ak,.bool aI,.bool rel,.slice (some ⟨b,off,none⟩) l.length cap] 28)) W→(W.cell? ⟨w.heap.size,0,none⟩=some (.int .i64 7)∧W.cell? ⟨w.heap.size,1,none⟩=some (.int .i64 low)∧W.cell? ⟨w.heap.size,2,none⟩=some (.int .i64 aD)∧W.cell? ⟨w.heap.size,3,none⟩=some (.int .i64 0)∧W.cell? ⟨w.heap.size,4,none⟩=some (.int .i64 0)∧W.cell? ⟨w.heap.size,5,none⟩=some (.int .i64 ak)∧W.cell? ⟨w.heap.size,6,none⟩=some (.bool aI)∧W.cell? ⟨w.heap.size,7,none⟩=some (.bool rel)∧W.cell? ⟨w.heap.size,8,none⟩=some (.slice (some ⟨b,off,none⟩) l.length cap)) from fun W hW=>by
   refine ⟨?_,?_,?_,?_,?_,?_,?_,?_,?_⟩
   ·exact (hW.cell (p:=⟨w.heap.size,0,none⟩) (by simp)).trans (by simp [go_sem])
   ·exact (hW.cell (p:=⟨w.heap.size,1,none⟩) (by simp)).trans (by simp [go_sem])
   ·exact (hW.cell (p:=⟨w.heap.size,2,none⟩) (by simp)).trans (by simp [go_sem])
   ·exact (hW.cell (p:=⟨w.heap.size,3,none⟩) (by simp)).trans (by simp [go_sem])
   ·exact (hW.cell (p:=⟨w.heap.size,4,none⟩) (by simp)).trans (by simp [go_sem])
   ·exact (hW.cell (p:=⟨w.heap.size,5,none⟩) (by simp)).trans (by simp [go_sem])
   ·exact (hW.cell (p:=⟨w.heap.size,6,none⟩) (by simp)).trans (by simp [go_sem])
   ·exact (hW.cell (p:=⟨w.heap.size,7,none⟩) (by simp)).trans (by simp [go_sem])
   ·exact (hW.cell (p:=⟨w.heap.size,8,none⟩) (by simp)).trans (by simp [go_sem])
  )
  clear uM;go_wp2_with (first | (go_at_call 45;((with_reducible refine (aR _ _ _ _).mono ?_);rintro e w' ⟨rfl,rfl⟩)) | (go_at_call 44;((with_reducible refine (bq _ _).mono ?_);rintro e w' ⟨rfl,rfl⟩)) | fail);go_loopw [95] (fun i wr=>∃k:Nat,k≤l.length∧i=.int .i64 k∧Hid ((l.take k).all fV=true)∧Below (w.heap.size+1) (w.alloc (.cells #[.int .i64 7,.int .i64 low,.int .i64 aD,.int .i64 0,.int .i64 0,.int .i64 ak,.bool aI,.bool rel,.slice (some ⟨b,off,none⟩) l.length cap] 28)) wr) (fun i _=>l.length-(intOf i).toNat)
  case atStart=>exact ⟨0,Nat.zero_le _,rfl,ah (by simp),Below.refl _ _⟩
  case round=>
   obtain ⟨k,hk,rfl,HAK,hbw⟩:=hrel;have HB:=ah hbw;have bA:=ah (show Below w.heap.size w wr from ((Below.refl _ _).alloc (Nat.le_refl _) _).trans (hbw.mono (by omega)));have yP:=hbw.size;simp at yP;by_cases hlt:k<l.length
   ·obtain ⟨c0,c1,c2⟩:=HC9.out k hlt;have d0:wr.cell? ⟨b,off+k*3,none⟩=some (.int .i64 l[k].lv):=(bA.out.cell (p:=⟨b,off+k*3,none⟩) hbb).trans c0;have d1:wr.cell? ⟨b,off+k*3+1,none⟩=some (.int .i64 l[k].hold):=(bA.out.cell (p:=⟨b,off+k*3+1,none⟩) hbb).trans c1;have d2:wr.cell? ⟨b,off+k*3+2,none⟩=some (.int .i64 l[k].bG):=(bA.out.cell (p:=⟨b,off+k*3+2,none⟩) hbb).trans c2;have hbr:b<wr.heap.size:=by omega
    have HNO:=ah (fun (h:fV l[k]=false)=>(show C=1 by
     have h2:¬l.all fV=true:=by
      intro h3;rw [List.all_eq_true.1 h3 _ (List.getElem_mem hlt)] at h;cases h
     rw [qO.out,if_neg h2]))
    have vT:=ah (show (l.take (k+1)).all fV=((l.take k).all fV&&fV l[k]) by rw [List.take_succ_eq_append_getElem hlt,List.all_append];simp);have iB:=ah (show fV l[k]=(bW l[k].lv 0 65535&&bW l[k].hold 0 3600000&&bW l[k].bG 0 3600000) from rfl);clear hbw c0 c1 c2;rcases Bool.eq_false_or_eq_true (bW l[k].lv 0 65535) with m0 | m0;rotate_left
    ·have HV:=ah (HNO.out (by rw [iB.out];simp [*]));go_wp2_with (first | (go_at_call 45;((with_reducible refine (aR _ _ _ _).mono ?_);rintro e w' ⟨rfl,rfl⟩)) | (go_at_call 44;((with_reducible refine (bq _ _).mono ?_);rintro e w' ⟨rfl,rfl⟩)) | fail);all_goals go_ret
     all_goals exact ⟨by rw [HV.out]<;>rfl,bA.out.alloc (by omega) _⟩
    rcases Bool.eq_false_or_eq_true (bW l[k].hold 0 3600000) with m1 | m1;rotate_left
    ·have HV:=ah (HNO.out (by rw [iB.out];simp [*]));go_wp2_with (first | (go_at_call 45;((with_reducible refine (aR _ _ _ _).mono ?_);rintro e w' ⟨rfl,rfl⟩)) | (go_at_call 44;((with_reducible refine (bq _ _).mono ?_);rintro e w' ⟨rfl,rfl⟩)) | fail);all_goals go_ret
     all_goals exact ⟨by rw [HV.out]<;>rfl,bA.out.alloc (by omega) _⟩
    rcases Bool.eq_false_or_eq_true (bW l[k].bG 0 3600000) with m2 | m2;rotate_left
    ·have HV:=ah (HNO.out (by rw [iB.out];simp [*]));go_wp2_with (first | (go_at_call 45;((with_reducible refine (aR _ _ _ _).mono ?_);rintro e w' ⟨rfl,rfl⟩)) | (go_at_call 44;((with_reducible refine (bq _ _).mono ?_);rintro e w' ⟨rfl,rfl⟩)) | fail);all_goals go_ret
     all_goals exact ⟨by rw [HV.out]<;>rfl,bA.out.alloc (by omega) _⟩
    have HQ:=ah (show (l.take (k+1)).all fV=true by rw [vT.out,HAK.out,iB.out,m0,m1,m2];rfl);go_wp2_with (first | (go_at_call 45;((with_reducible refine (aR _ _ _ _).mono ?_);rintro e w' ⟨rfl,rfl⟩)) | (go_at_call 44;((with_reducible refine (bq _ _).mono ?_);rintro e w' ⟨rfl,rfl⟩)) | fail);go_roundw
    case rel=>
     first
      | exact ⟨k+1,by omega,by go_num,HQ,HB.out.alloc (by omega) _⟩
      | ((repeat apply Exists.intro);refine ⟨⟨k+1,by omega,by go_num,HQ,HB.out.alloc (by omega) _⟩,?_⟩;rfl)
    case measure=>simp [intOf];omega
   ·have hkk:k=l.length:=by omega
    have hall:=HAK.out;rw [hkk,List.take_length] at hall;obtain ⟨e0,e1,e2,e3,e4,e5,e6,e7,e8⟩:=dI.out wr hbw;have hwb:w.heap.size<wr.heap.size:=by omega
    have CY2:=ah (CY.out wr bA.out l5' hall (by first | trivial | omega) (by first | trivial | rfl));have HCZ:=ah (show C=dN (!bW (dh l) 1 3600000) 1 by rw [qO.out,if_pos hall];unfold dN;cases bW (dh l) 1 3600000<;>rfl);subst hkk;generalize dh l=sm at *;clear hbw hall HAK HB;go_wp2_with fail;refine CY2.out.mono ?_;rintro e wE ⟨rfl,hbE⟩;have gu:=ah (show Below w.heap.size w wE from bA.out.trans (hbE.mono (by omega)));clear hbE e0 e1 e2 e3 e4 e5 e6 e7 e8;rcases Bool.eq_false_or_eq_true (bW sm 1 3600000) with m3 | m3
    all_goals
     rw [m3] at HCZ;go_wp2_with (first | (go_at_call 45;((with_reducible refine (aR _ _ _ _).mono ?_);rintro e w' ⟨rfl,rfl⟩)) | (go_at_call 44;((with_reducible refine (bq _ _).mono ?_);rintro e w' ⟨rfl,rfl⟩)) | fail);all_goals go_ret
     all_goals exact ⟨by rw [HCZ.out]<;>rfl,gu.out⟩
 have f4':(aK==4)=false:=by simp [f4]
 have f4'':(aK !=4)=true:=by simp [f4]
 have f7':(aK==7)=false:=by simp [f7]
 have f7'':(aK !=7)=true:=by simp [f7]
 go_enter Tryz.func25,Tryz.ntmps25;rcases Bool.eq_false_or_eq_true (bW aK 1 7) with fb | fb;rotate_left
 ·skip;have HV:=ah (show C=4 by rw [HC.out];simp [dL,eT, *]);go_wp2_with (first | (go_at_call 45;((with_reducible refine (aR _ _ _ _).mono ?_);rintro e w' ⟨rfl,rfl⟩)) | (go_at_call 44;((with_reducible refine (bq _ _).mono ?_);rintro e w' ⟨rfl,rfl⟩)) | fail);all_goals go_ret
  all_goals exact ⟨by rw [HV.out]<;>rfl,(Below.refl _ _).alloc (Nat.le_refl _) _⟩
 go_upto_region 4 with (first | (go_at_call 45;((with_reducible refine (aR _ _ _ _).mono ?_);rintro e w' ⟨rfl,rfl⟩)) | (go_at_call 44;((with_reducible refine (bq _ _).mono ?_);rintro e w' ⟨rfl,rfl⟩)) | fail);by_cases w0:ay=0;rotate_left
 ·have w1:(ay !=0)=true:=by simp [w0]
  have HV:=ah (show C=3 by rw [HC.out];simp [dL,eT, *]);go_wp2_with (first | (go_at_call 45;((with_reducible refine (aR _ _ _ _).mono ?_);rintro e w' ⟨rfl,rfl⟩)) | (go_at_call 44;((with_reducible refine (bq _ _).mono ?_);rintro e w' ⟨rfl,rfl⟩)) | fail);all_goals go_ret
  all_goals exact ⟨by rw [HV.out]<;>rfl,(Below.refl _ _).alloc (Nat.le_refl _) _⟩
 subst w0;rcases Nat.eq_zero_or_pos l.length with l0 | l0;rotate_left
 ·have l0':¬l.length=0:=by omega
  have HV:=ah (show C=3 by rw [HC.out];simp [dL,eT, *]);go_wp2_with (first | (go_at_call 45;((with_reducible refine (aR _ _ _ _).mono ?_);rintro e w' ⟨rfl,rfl⟩)) | (go_at_call 44;((with_reducible refine (bq _ _).mono ?_);rintro e w' ⟨rfl,rfl⟩)) | fail);all_goals go_ret
  all_goals exact ⟨by rw [HV.out]<;>rfl,(Below.refl _ _).alloc (Nat.le_refl _) _⟩
 go_upto_region 6 with (first | (go_at_call 45;((with_reducible refine (aR _ _ _ _).mono ?_);rintro e w' ⟨rfl,rfl⟩)) | (go_at_call 44;((with_reducible refine (bq _ _).mono ?_);rintro e w' ⟨rfl,rfl⟩)) | fail);rcases Bool.eq_false_or_eq_true (bW low 0 65535) with k1 | k1;rotate_left
 ·skip;have HV:=ah (show C=1 by rw [HC.out];simp [dL,eT, *]);go_wp2_with (first | (go_at_call 45;((with_reducible refine (aR _ _ _ _).mono ?_);rintro e w' ⟨rfl,rfl⟩)) | (go_at_call 44;((with_reducible refine (bq _ _).mono ?_);rintro e w' ⟨rfl,rfl⟩)) | fail);all_goals go_ret
  all_goals exact ⟨by rw [HV.out]<;>rfl,(Below.refl _ _).alloc (Nat.le_refl _) _⟩
 rcases Bool.eq_false_or_eq_true (bW aD 0 65535) with k2 | k2;rotate_left
 ·skip;have HV:=ah (show C=1 by rw [HC.out];simp [dL,eT, *]);go_wp2_with (first | (go_at_call 45;((with_reducible refine (aR _ _ _ _).mono ?_);rintro e w' ⟨rfl,rfl⟩)) | (go_at_call 44;((with_reducible refine (bq _ _).mono ?_);rintro e w' ⟨rfl,rfl⟩)) | fail);all_goals go_ret
  all_goals exact ⟨by rw [HV.out]<;>rfl,(Below.refl _ _).alloc (Nat.le_refl _) _⟩
 by_cases k3:aD<low
 ·skip;have HV:=ah (show C=1 by rw [HC.out];simp [dL,eT, *]);go_wp2_with (first | (go_at_call 45;((with_reducible refine (aR _ _ _ _).mono ?_);rintro e w' ⟨rfl,rfl⟩)) | (go_at_call 44;((with_reducible refine (bq _ _).mono ?_);rintro e w' ⟨rfl,rfl⟩)) | fail);all_goals go_ret
  all_goals exact ⟨by rw [HV.out]<;>rfl,(Below.refl _ _).alloc (Nat.le_refl _) _⟩
 have k3':low≤aD:=by omega
 go_upto_region 8 with (first | (go_at_call 45;((with_reducible refine (aR _ _ _ _).mono ?_);rintro e w' ⟨rfl,rfl⟩)) | (go_at_call 44;((with_reducible refine (bq _ _).mono ?_);rintro e w' ⟨rfl,rfl⟩)) | fail);rcases Bool.eq_false_or_eq_true (bW aA 1 3600000) with k4 | k4;rotate_left
 ·skip;have HV:=ah (show C=1 by rw [HC.out];simp [dL,eT, *]);go_wp2_with (first | (go_at_call 45;((with_reducible refine (aR _ _ _ _).mono ?_);rintro e w' ⟨rfl,rfl⟩)) | (go_at_call 44;((with_reducible refine (bq _ _).mono ?_);rintro e w' ⟨rfl,rfl⟩)) | fail);all_goals go_ret
  all_goals exact ⟨by rw [HV.out]<;>rfl,(Below.refl _ _).alloc (Nat.le_refl _) _⟩
 have k5:bW 0 0 1000=true:=by decide
 rcases Bool.eq_false_or_eq_true (bW ak (-10000) 10000) with k6 | k6;rotate_left
 ·skip;have HV:=ah (show C=1 by rw [HC.out];simp [dL,eT, *]);go_wp2_with (first | (go_at_call 45;((with_reducible refine (aR _ _ _ _).mono ?_);rintro e w' ⟨rfl,rfl⟩)) | (go_at_call 44;((with_reducible refine (bq _ _).mono ?_);rintro e w' ⟨rfl,rfl⟩)) | fail);all_goals go_ret
  all_goals exact ⟨by rw [HV.out]<;>rfl,(Below.refl _ _).alloc (Nat.le_refl _) _⟩
 have HV:=ah (show C=0 by rw [HC.out];simp [dL,eT, *]);go_wp2_with (first | (go_at_call 45;((with_reducible refine (aR _ _ _ _).mono ?_);rintro e w' ⟨rfl,rfl⟩)) | (go_at_call 44;((with_reducible refine (bq _ _).mono ?_);rintro e w' ⟨rfl,rfl⟩)) | fail);all_goals go_ret
 all_goals exact ⟨by rw [HV.out]<;>rfl,(Below.refl _ _).alloc (Nat.le_refl _) _⟩
theorem yD (aK low aD aA ay ak aB bP aN aQ:Int) (aI rel:Bool) (so ko ro:Option Addr) (cO dG bD:Nat) (st:List Stp) (aO:List (Int×ByteArray)) (aJ:List (Int×Int)) (w:World) (hx:Av w.heap.size w (.slice ro aJ.length bD) aJ) :
  Calls Tryz.prog 27 #[(.agg #[.int .i64 aK,.int .i64 low,.int .i64 aD,.int .i64 aA,.int .i64 ay,.int .i64 ak,.bool aI,.bool rel,.slice so st.length cO,.slice ko aO.length dG,.int .i64 aB,.slice ro aJ.length bD,.int .i64 bP,.int .i64 aN,.int .i64 aQ])] w fun e w'=>e=.returned (.int .i64 (qV aB bP aN aQ aJ))∧Below w.heap.size w w':=by
 have HR:=ah (fun k (h:k<aJ.length)=>sW hx k h)
 have hr2:aJ.length≤maxLen:=by
  obtain ⟨_,_,_,h1,h2,_⟩:=hx;omega
 unfold maxLen at hr2;clear hx;have EA:=ah (show qV aB bP aN aQ aJ=(if nJ aB bP aN aQ then 1 else if decide (aN=-1)&&decide (aQ≠0) then 3 else if 50<aJ.length then 2 else rF aB none aJ) from rfl);have HB1:=ah (show nJ aB bP aN aQ=(!bW aB 0 36000000||!bW bP 0 36000000||!bW aQ 0 36000000||(decide (aN≠-1)&&!bW aN aB 36000000)) from rfl);generalize qV aB bP aN aQ aJ=RES at *;have KC:=ah (sU w (.int .i64 aK) (.int .i64 low) (.int .i64 aD) (.int .i64 aA) (.int .i64 ay) (.int .i64 ak) (.bool aI) (.bool rel) (.slice so st.length cO) (.slice ko aO.length dG) (.int .i64 aB) (.slice ro aJ.length bD) (.int .i64 bP) (.int .i64 aN) (.int .i64 aQ) 32);have KA:=ah (show ∀W o,Below (w.heap.size+1) (w.alloc (.cells #[.int .i64 aK,.int .i64 low,.int .i64 aD,.int .i64 aA,.int .i64 ay,.int .i64 ak,.bool aI,.bool rel,.slice so st.length cO,.slice ko aO.length dG,.int .i64 aB,.slice ro aJ.length bD,.int .i64 bP,.int .i64 aN,.int .i64 aQ] 32)) W→Below (w.heap.size+1) (w.alloc (.cells #[.int .i64 aK,.int .i64 low,.int .i64 aD,.int .i64 aA,.int .i64 ay,.int .i64 ak,.bool aI,.bool rel,.slice so st.length cO,.slice ko aO.length dG,.int .i64 aB,.slice ro aJ.length bD,.int .i64 bP,.int .i64 aN,.int .i64 aQ] 32)) (W.alloc o) from fun W o h=>h.alloc (by have:=h.size;simp at this;omega) o);go_enter Tryz.func27,Tryz.ntmps27;go_upto_region 1 with fail;have HBW0:Below (w.heap.size+1) (w.alloc (.cells #[.int .i64 aK,.int .i64 low,.int .i64 aD,.int .i64 aA,.int .i64 ay,.int .i64 ak,.bool aI,.bool rel,.slice so st.length cO,.slice ko aO.length dG,.int .i64 aB,.slice ro aJ.length bD,.int .i64 bP,.int .i64 aN,.int .i64 aQ] 32)) (w.alloc (.cells #[.int .i64 aK,.int .i64 low,.int .i64 aD,.int .i64 aA,.int .i64 ay,.int .i64 ak,.bool aI,.bool rel,.slice so st.length cO,.slice ko aO.length dG,.int .i64 aB,.slice ro aJ.length bD,.int .i64 bP,.int .i64 aN,.int .i64 aQ] 32)):=Below.refl _ _;generalize hwr:(w.alloc (.cells #[.int .i64 aK,.int .i64 low,.int .i64 aD,.int .i64 aA,.int .i64 ay,.int .i64 ak,.bool aI,.bool rel,.slice so st.length cO,.slice ko aO.length dG,.int .i64 aB,.slice ro aJ.length bD,.int .i64 bP,.int .i64 aN,.int .i64 aQ] 32))=wr;have bA:=ah (show Below (w.heap.size+1) (w.alloc (.cells #[.int .i64 aK,.int .i64 low,.int .i64 aD,.int .i64 aA,.int .i64 ay,.int .i64 ak,.bool aI,.bool rel,.slice so st.length cO,.slice ko aO.length dG,.int .i64 aB,.slice ro aJ.length bD,.int .i64 bP,.int .i64 aN,.int .i64 aQ] 32)) wr by rw [←hwr];exact HBW0);clear hwr HBW0;obtain ⟨hB2,hz3,q0,q1,q2,q3,q4,q5,q6,q7,q8,q9,kS,l7,nk,ow,ou⟩:=KC.out _ bA.out;go_cut [33] (fun s33 wx=>s33=.bool (nJ aB bP aN aQ)∧wr=wx)
 case first=>
  rcases Bool.eq_false_or_eq_true (bW aB 0 36000000) with k0 | k0;rotate_left
  ·skip;have HV:=ah (show nJ aB bP aN aQ=true by rw [HB1.out];simp [*]);go_wp2_with (first | (go_at_call 22;((with_reducible refine (gK _ _).mono ?_);rintro e w' ⟨rfl,rfl⟩)) | (go_at_call 45;((with_reducible refine (aR _ _ _ _).mono ?_);rintro e w' ⟨rfl,rfl⟩)) | fail);all_goals go_meet
   all_goals exact ⟨by rw [HV.out]<;>rfl,rfl⟩
  rcases Bool.eq_false_or_eq_true (bW bP 0 36000000) with k1 | k1;rotate_left
  ·skip;have HV:=ah (show nJ aB bP aN aQ=true by rw [HB1.out];simp [*]);go_wp2_with (first | (go_at_call 22;((with_reducible refine (gK _ _).mono ?_);rintro e w' ⟨rfl,rfl⟩)) | (go_at_call 45;((with_reducible refine (aR _ _ _ _).mono ?_);rintro e w' ⟨rfl,rfl⟩)) | fail);all_goals go_meet
   all_goals exact ⟨by rw [HV.out]<;>rfl,rfl⟩
  rcases Bool.eq_false_or_eq_true (bW aQ 0 36000000) with k2 | k2;rotate_left
  ·skip;have HV:=ah (show nJ aB bP aN aQ=true by rw [HB1.out];simp [*]);go_wp2_with (first | (go_at_call 22;((with_reducible refine (gK _ _).mono ?_);rintro e w' ⟨rfl,rfl⟩)) | (go_at_call 45;((with_reducible refine (aR _ _ _ _).mono ?_);rintro e w' ⟨rfl,rfl⟩)) | fail);all_goals go_meet
   all_goals exact ⟨by rw [HV.out]<;>rfl,rfl⟩
  by_cases ht:aN=-1
  ·subst ht;have HV:=ah (show nJ aB bP (-1) aQ=false by rw [HB1.out];simp [*]);go_wp2_with (first | (go_at_call 22;((with_reducible refine (gK _ _).mono ?_);rintro e w' ⟨rfl,rfl⟩)) | (go_at_call 45;((with_reducible refine (aR _ _ _ _).mono ?_);rintro e w' ⟨rfl,rfl⟩)) | fail);all_goals go_meet
   all_goals exact ⟨by rw [HV.out]<;>rfl,rfl⟩
  have ht1:(aN !=-1)=true:=by simp [ht]
  rcases Bool.eq_false_or_eq_true (bW aN aB 36000000) with k3 | k3;rotate_left
  ·skip;have HV:=ah (show nJ aB bP aN aQ=true by rw [HB1.out];simp [*]);go_wp2_with (first | (go_at_call 22;((with_reducible refine (gK _ _).mono ?_);rintro e w' ⟨rfl,rfl⟩)) | (go_at_call 45;((with_reducible refine (aR _ _ _ _).mono ?_);rintro e w' ⟨rfl,rfl⟩)) | fail);all_goals go_meet
   all_goals exact ⟨by rw [HV.out]<;>rfl,rfl⟩
  have HV:=ah (show nJ aB bP aN aQ=false by rw [HB1.out];simp [*]);go_wp2_with (first | (go_at_call 22;((with_reducible refine (gK _ _).mono ?_);rintro e w' ⟨rfl,rfl⟩)) | (go_at_call 45;((with_reducible refine (aR _ _ _ _).mono ?_);rintro e w' ⟨rfl,rfl⟩)) | fail);all_goals go_meet
  all_goals exact ⟨by rw [HV.out]<;>rfl,rfl⟩
 case rest=>
  obtain ⟨rfl,rfl⟩:=hcut;generalize nJ aB bP aN aQ=B1 at *;have HB2:=ah hB2;clear hB2;cases B1;rotate_left
  ·skip;have HV:=ah (show RES=1 by rw [EA.out];rfl);go_wp2_with (first | (go_at_call 22;((with_reducible refine (gK _ _).mono ?_);rintro e w' ⟨rfl,rfl⟩)) | (go_at_call 45;((with_reducible refine (aR _ _ _ _).mono ?_);rintro e w' ⟨rfl,rfl⟩)) | fail);all_goals go_ret
   all_goals exact ⟨by rw [HV.out]<;>rfl,HB2.out⟩
  go_upto_region 3 with fail;go_cut [41] (fun s41 wx=>s41=.bool (decide (aN=-1)&&decide (aQ≠0))∧wr=wx)
  case first=>
   by_cases ht:aN=-1
   ·by_cases hu:aQ=0
    ·go_wp2_with fail;all_goals go_meet
     all_goals exact ⟨by simp [ht,hu],rfl⟩
    ·go_wp2_with fail;all_goals go_meet
     all_goals exact ⟨by simp [ht,hu],rfl⟩
   ·go_wp2_with fail;all_goals go_meet
    all_goals exact ⟨by simp [ht],rfl⟩
  case rest=>
   obtain ⟨rfl,rfl⟩:=hcut;generalize (decide (aN=-1)&&decide (aQ≠0))=B2 at *;cases B2;rotate_left
   ·skip;have HV:=ah (show RES=3 by rw [EA.out];rfl);go_wp2_with (first | (go_at_call 22;((with_reducible refine (gK _ _).mono ?_);rintro e w' ⟨rfl,rfl⟩)) | (go_at_call 45;((with_reducible refine (aR _ _ _ _).mono ?_);rintro e w' ⟨rfl,rfl⟩)) | fail);all_goals go_ret
    all_goals exact ⟨by rw [HV.out]<;>rfl,HB2.out⟩
   by_cases h50:50<aJ.length
   ·skip;have HV:=ah (show RES=2 by rw [EA.out];simp [h50]);go_wp2_with (first | (go_at_call 22;((with_reducible refine (gK _ _).mono ?_);rintro e w' ⟨rfl,rfl⟩)) | (go_at_call 45;((with_reducible refine (aR _ _ _ _).mono ?_);rintro e w' ⟨rfl,rfl⟩)) | fail);all_goals go_ret
    all_goals exact ⟨by rw [HV.out]<;>rfl,HB2.out⟩
   have J4:=ah (show RES=rF aB none aJ by rw [EA.out];simp [h50]);have h51:aJ.length≤50:=by omega
   clear h50 EA HB1;go_wp2_with fail;go_loopw [49] (fun i wx=>∃k:Nat,k≤aJ.length∧i=.int .i64 k∧Hid (RES=rF aB (nu aJ k) (aJ.drop k))∧Hid (Below (w.heap.size+1) (w.alloc (.cells #[.int .i64 aK,.int .i64 low,.int .i64 aD,.int .i64 aA,.int .i64 ay,.int .i64 ak,.bool aI,.bool rel,.slice so st.length cO,.slice ko aO.length dG,.int .i64 aB,.slice ro aJ.length bD,.int .i64 bP,.int .i64 aN,.int .i64 aQ] 32)) wx)) (fun i _=>aJ.length-(intOf i).toNat)
   case atStart=>exact ⟨0,Nat.zero_le _,rfl,ah J4.out,bA⟩
   case round=>
    clear bA HB2 hz3 q9 kS l7 nk ow ou;obtain ⟨k,hk2,rfl,gW,dI⟩:=hrel;obtain ⟨hB3,hz4,q0,q1,q2,q3,q4,q5,q6,q7,q8,q9,kS,l7,nk,ow,ou⟩:=KC.out _ dI.out;by_cases hlt2:k<aJ.length
    ·have HST:=ah (gW.out.trans (Km aB aJ k hlt2));obtain ⟨b,off,rfl,hbb,hc⟩:=HR.out k hlt2;obtain ⟨d0,d1⟩:=hc _ hB3;have hbr:=Nat.lt_of_lt_of_le hbb hB3.size;have pU:=ah hB3;clear hB3 gW hc;have NW:=ah (fun h0=>BQ aJ k h0 hlt2)
     have vS:=ah (fun (h0:0<k)=>show (∀W,Below w.heap.size w W→W.cell? ⟨b,off+(k-1)*2,none⟩=some (.int .i64 (aJ[k-1]'(by omega)).1)) from by
      obtain ⟨b',off',e1,_,h3⟩:=HR.out (k-1) (by omega);injection e1 with e1;injection e1 with e2 e3;subst e2 e3;exact fun W hW=>(h3 W hW).1)
     generalize aJ[k]=rk at *;obtain ⟨rt,rp⟩:=rk;simp only at d0 d1;rcases Bool.eq_false_or_eq_true (bW rt aB 36000000) with k0 | k0;rotate_left
     ·skip;have HV:=ah (show RES=1 by rw [HST.out];simp [k0]);go_wp2_with (first | (go_at_call 22;((with_reducible refine (gK _ _).mono ?_);rintro e w' ⟨rfl,rfl⟩)) | (go_at_call 45;((with_reducible refine (aR _ _ _ _).mono ?_);rintro e w' ⟨rfl,rfl⟩)) | fail);all_goals go_ret
      all_goals exact ⟨by rw [HV.out]<;>rfl,(KC.out _ (KA.out _ _ dI.out)).1⟩
     rcases Bool.eq_false_or_eq_true (bW rp 0 1000) with k1 | k1;rotate_left
     ·skip;have HV:=ah (show RES=1 by rw [HST.out];simp [k0,k1]);go_wp2_with (first | (go_at_call 22;((with_reducible refine (gK _ _).mono ?_);rintro e w' ⟨rfl,rfl⟩)) | (go_at_call 45;((with_reducible refine (aR _ _ _ _).mono ?_);rintro e w' ⟨rfl,rfl⟩)) | fail);all_goals go_ret
      all_goals exact ⟨by rw [HV.out]<;>rfl,(KC.out _ (KA.out _ _ dI.out)).1⟩
     by_cases h0:k=0
     ·subst h0;simp only [Nat.zero_mul,Nat.add_zero,Nat.zero_add] at d0 d1;have vT:=ah (show RES=rF aB (nu aJ (0+1)) (aJ.drop (0+1)) by rw [HST.out];simp [k0,k1,nu]);go_wp2_with (first | (go_at_call 22;((with_reducible refine (gK _ _).mono ?_);rintro e w' ⟨rfl,rfl⟩)) | (go_at_call 45;((with_reducible refine (aR _ _ _ _).mono ?_);rintro e w' ⟨rfl,rfl⟩)) | fail);go_quiet (fail)
      go_wp2_with fail;go_roundw
      case rel=>exact ⟨1,by omega,rfl,vT,ah (dz (KA.out _ _ dI.out) _)⟩
      case measure=>simp [intOf];omega
     ·have HPP:=ah (NW.out (by omega));have d2:=vS.out (by omega) _ pU.out;clear NW vS;generalize (aJ[k-1]'(by omega))=rj at *;obtain ⟨jt,jp⟩:=rj;simp only at d2;obtain ⟨j,rfl⟩:∃j,k=j+1:=⟨k-1,by omega⟩;simp only [Nat.add_sub_cancel] at d2;have hji:((j+1:Nat):Int)-1=(j:Int):=by omega
      by_cases hle:rt≤jt
      ·skip;have HV:=ah (show RES=7 by rw [HST.out,HPP.out];simp [k0,k1,hle]);go_wp2_with (first | (go_at_call 22;((with_reducible refine (gK _ _).mono ?_);rintro e w' ⟨rfl,rfl⟩)) | (go_at_call 45;((with_reducible refine (aR _ _ _ _).mono ?_);rintro e w' ⟨rfl,rfl⟩)) | fail);go_quiet (fail)
       go_wp2_with fail;go_ret;exact ⟨by rw [HV.out]<;>rfl,dz (KC.out _ (KA.out _ _ dI.out)).1 _⟩
      ·have vT:=ah (show RES=rF aB (nu aJ (j+1+1)) (aJ.drop (j+1+1)) by rw [HST.out,HPP.out];simp [k0,k1,hle]);have Qw:decide (rt≤jt)=false:=by simpa using hle
       go_wp2_with (first | (go_at_call 22;((with_reducible refine (gK _ _).mono ?_);rintro e w' ⟨rfl,rfl⟩)) | (go_at_call 45;((with_reducible refine (aR _ _ _ _).mono ?_);rintro e w' ⟨rfl,rfl⟩)) | fail);go_quiet (fail)
       go_wp2_with fail;go_roundw
       case rel=>exact ⟨j+1+1,by omega,by go_num,vT,ah (dz (KA.out _ _ dI.out) _)⟩
       case measure=>simp [intOf];omega
    ·have HV:=ah (show RES=0 by rw [gW.out,List.drop_of_length_le (by omega)];rfl);have pU:=ah hB3;clear hB3;go_wp2_with (first | (go_at_call 22;((with_reducible refine (gK _ _).mono ?_);rintro e w' ⟨rfl,rfl⟩)) | (go_at_call 45;((with_reducible refine (aR _ _ _ _).mono ?_);rintro e w' ⟨rfl,rfl⟩)) | fail);go_ret;exact ⟨by rw [HV.out]<;>rfl,pU.out⟩
theorem LZ {B:Nat} {w:World} {b off cap:Nat} {l:List (Int×ByteArray)} (k:Nat) (hk:k≤l.length) (hb:b<B) (h:∀j u,(nE l)[j]?=some u→w.cell? ⟨b,off+j,none⟩=some u):yH B w (.slice (some ⟨b,off,none⟩) (l.take k).length cap) (l.take k).length (nE (l.take k)):=by
 refine ⟨_,_,rfl,fun _=>⟨b,off,rfl,hb,fun j u hu=>h j u ?_⟩⟩;unfold nE at hu ⊢;rw [←Gw] at hu;rw [List.getElem?_take] at hu;split at hu
 ·exact hu
 ·cases hu
end Go.Proofs.YtopmdeefcjdadaaGreat
