import Derived.Test.YtopmdeefcjdadaaGreatT42M00
import Derived.Test.YtopmdeefcjdadaaGreatT42M01
import Derived.Deep.DeepCutAuto
import Derived.Deep.QuietTactic
import Derived.BigQuiet
import Derived.RegionTactic
import Derived.Maps.OwnOps
import Derived.Maps.OwnSet
import Derived.Maps.Own
import Derived.Maps.Views
import Derived.Below
import Derived.Deep.RegionHeld3
import Derived.WalkSpells
import Derived.Maps.AppendAt
import Derived.Lib.SliceRun
import Derived.OwnWalk
import Derived.Lib.IndexBytes
set_option linter.unusedVariables false
set_option linter.unusedSimpArgs false
set_option maxRecDepth 100000
set_option maxHeartbeats 32000000
namespace Go.Proofs.YtopmdeefcjdadaaGreat
open Go.RowKit
theorem Gl (aK low aD aA ay ak:Int) (aI rel:Bool) (ao:Option Addr) (cap:Nat) (l:List Stp) (w:World) (hs:eH w.heap.size w ao l) (hmax:l.length≤maxLen) :
  Calls Tryz.prog 37 #[(.agg #[.int .i64 aK,.int .i64 low,.int .i64 aD,.int .i64 aA,.int .i64 ay,.int .i64 ak,.bool aI,.bool rel,.slice ao l.length cap])] w fun e w'=>e=.returned (.int .i64 (dL aK low aD aA ay ak l))∧Below w.heap.size w w':=by
 unfold maxLen at hmax;have HS:=ah hs;clear hs;have CY:=ah (fun (W:World) (hB:Below w.heap.size w W) (h1:l.length≤50) (h2:l.all fV=true) (h3:0≤aA∧aA≤3600000) (h7:aK=7)=>xG aK low aD aA ay ak aI rel ao cap l W (fun hne=>by obtain ⟨b,off,k1,k2,k3⟩:=HS.out hne;exact ⟨b,off,k1,Nat.lt_of_lt_of_le k2 hB.size,fun i hi=>⟨(hB.cell (p:=⟨b,off+i*3,none⟩) k2).trans (k3 i hi).1,(hB.cell (p:=⟨b,off+i*3+1,none⟩) k2).trans (k3 i hi).2.1,(hB.cell (p:=⟨b,off+i*3+2,none⟩) k2).trans (k3 i hi).2.2⟩⟩) h1 h2 h3);generalize hC:dL aK low aD aA ay ak l=C;have HC:=ah hC.symm;clear hC;by_cases f4:aK=4
 ·subst f4;have fb:bW 4 1 7=true:=by decide
  go_enter Tryz.func37,Tryz.ntmps37;go_upto_region 4 with (first | (go_at_call 31;((with_reducible refine (aV _ _ _ _).mono ?_);rintro e w' ⟨rfl,rfl⟩)) | (go_at_call 38;((with_reducible refine (bF _ _).mono ?_);rintro e w' ⟨rfl,rfl⟩)) | (go_at_call 17;((with_reducible refine (bZ _ _ _).mono ?_);rintro e w' ⟨rfl,rfl⟩)) | fail);rcases Nat.eq_zero_or_pos l.length with l0 | l0;rotate_left
  ·have l0':¬l.length=0:=by omega
   have HV:=ah (show C=3 by rw [HC.out];simp [dL,eT, *]);go_wp2_with (first | (go_at_call 31;((with_reducible refine (aV _ _ _ _).mono ?_);rintro e w' ⟨rfl,rfl⟩)) | (go_at_call 38;((with_reducible refine (bF _ _).mono ?_);rintro e w' ⟨rfl,rfl⟩)) | (go_at_call 17;((with_reducible refine (bZ _ _ _).mono ?_);rintro e w' ⟨rfl,rfl⟩)) | fail);all_goals go_ret
   all_goals exact ⟨by rw [HV.out]<;>rfl,(Below.refl _ _).alloc (Nat.le_refl _) _⟩
  go_upto_region 6 with (first | (go_at_call 31;((with_reducible refine (aV _ _ _ _).mono ?_);rintro e w' ⟨rfl,rfl⟩)) | (go_at_call 38;((with_reducible refine (bF _ _).mono ?_);rintro e w' ⟨rfl,rfl⟩)) | (go_at_call 17;((with_reducible refine (bZ _ _ _).mono ?_);rintro e w' ⟨rfl,rfl⟩)) | fail);rcases Bool.eq_false_or_eq_true (bW low 0 65535) with k1 | k1;rotate_left
  ·skip;have HV:=ah (show C=1 by rw [HC.out];simp [dL,eT, *]);go_wp2_with (first | (go_at_call 31;((with_reducible refine (aV _ _ _ _).mono ?_);rintro e w' ⟨rfl,rfl⟩)) | (go_at_call 38;((with_reducible refine (bF _ _).mono ?_);rintro e w' ⟨rfl,rfl⟩)) | (go_at_call 17;((with_reducible refine (bZ _ _ _).mono ?_);rintro e w' ⟨rfl,rfl⟩)) | fail);all_goals go_ret
   all_goals exact ⟨by rw [HV.out]<;>rfl,(Below.refl _ _).alloc (Nat.le_refl _) _⟩
  rcases Bool.eq_false_or_eq_true (bW aD 0 65535) with k2 | k2;rotate_left
  ·skip;have HV:=ah (show C=1 by rw [HC.out];simp [dL,eT, *]);go_wp2_with (first | (go_at_call 31;((with_reducible refine (aV _ _ _ _).mono ?_);rintro e w' ⟨rfl,rfl⟩)) | (go_at_call 38;((with_reducible refine (bF _ _).mono ?_);rintro e w' ⟨rfl,rfl⟩)) | (go_at_call 17;((with_reducible refine (bZ _ _ _).mono ?_);rintro e w' ⟨rfl,rfl⟩)) | fail);all_goals go_ret
   all_goals exact ⟨by rw [HV.out]<;>rfl,(Below.refl _ _).alloc (Nat.le_refl _) _⟩
  by_cases k3:aD<low
  ·skip;have HV:=ah (show C=1 by rw [HC.out];simp [dL,eT, *]);go_wp2_with (first | (go_at_call 31;((with_reducible refine (aV _ _ _ _).mono ?_);rintro e w' ⟨rfl,rfl⟩)) | (go_at_call 38;((with_reducible refine (bF _ _).mono ?_);rintro e w' ⟨rfl,rfl⟩)) | (go_at_call 17;((with_reducible refine (bZ _ _ _).mono ?_);rintro e w' ⟨rfl,rfl⟩)) | fail);all_goals go_ret
   all_goals exact ⟨by rw [HV.out]<;>rfl,(Below.refl _ _).alloc (Nat.le_refl _) _⟩
  have k3':low≤aD:=by omega
  go_upto_region 8 with (first | (go_at_call 31;((with_reducible refine (aV _ _ _ _).mono ?_);rintro e w' ⟨rfl,rfl⟩)) | (go_at_call 38;((with_reducible refine (bF _ _).mono ?_);rintro e w' ⟨rfl,rfl⟩)) | (go_at_call 17;((with_reducible refine (bZ _ _ _).mono ?_);rintro e w' ⟨rfl,rfl⟩)) | fail);rcases Bool.eq_false_or_eq_true (bW aA 1 3600000) with k4 | k4;rotate_left
  ·skip;have HV:=ah (show C=1 by rw [HC.out];simp [dL,eT, *]);go_wp2_with (first | (go_at_call 31;((with_reducible refine (aV _ _ _ _).mono ?_);rintro e w' ⟨rfl,rfl⟩)) | (go_at_call 38;((with_reducible refine (bF _ _).mono ?_);rintro e w' ⟨rfl,rfl⟩)) | (go_at_call 17;((with_reducible refine (bZ _ _ _).mono ?_);rintro e w' ⟨rfl,rfl⟩)) | fail);all_goals go_ret
   all_goals exact ⟨by rw [HV.out]<;>rfl,(Below.refl _ _).alloc (Nat.le_refl _) _⟩
  rcases Bool.eq_false_or_eq_true (bW ay 0 1000) with k5 | k5;rotate_left
  ·skip;have HV:=ah (show C=1 by rw [HC.out];simp [dL,eT, *]);go_wp2_with (first | (go_at_call 31;((with_reducible refine (aV _ _ _ _).mono ?_);rintro e w' ⟨rfl,rfl⟩)) | (go_at_call 38;((with_reducible refine (bF _ _).mono ?_);rintro e w' ⟨rfl,rfl⟩)) | (go_at_call 17;((with_reducible refine (bZ _ _ _).mono ?_);rintro e w' ⟨rfl,rfl⟩)) | fail);all_goals go_ret
   all_goals exact ⟨by rw [HV.out]<;>rfl,(Below.refl _ _).alloc (Nat.le_refl _) _⟩
  rcases Bool.eq_false_or_eq_true (bW ak (-10000) 10000) with k6 | k6;rotate_left
  ·skip;have HV:=ah (show C=1 by rw [HC.out];simp [dL,eT, *]);go_wp2_with (first | (go_at_call 31;((with_reducible refine (aV _ _ _ _).mono ?_);rintro e w' ⟨rfl,rfl⟩)) | (go_at_call 38;((with_reducible refine (bF _ _).mono ?_);rintro e w' ⟨rfl,rfl⟩)) | (go_at_call 17;((with_reducible refine (bZ _ _ _).mono ?_);rintro e w' ⟨rfl,rfl⟩)) | fail);all_goals go_ret
   all_goals exact ⟨by rw [HV.out]<;>rfl,(Below.refl _ _).alloc (Nat.le_refl _) _⟩
  have HV:=ah (show C=0 by rw [HC.out];simp [dL,eT, *]);go_wp2_with (first | (go_at_call 31;((with_reducible refine (aV _ _ _ _).mono ?_);rintro e w' ⟨rfl,rfl⟩)) | (go_at_call 38;((with_reducible refine (bF _ _).mono ?_);rintro e w' ⟨rfl,rfl⟩)) | (go_at_call 17;((with_reducible refine (bZ _ _ _).mono ?_);rintro e w' ⟨rfl,rfl⟩)) | fail);all_goals go_ret
  all_goals exact ⟨by rw [HV.out]<;>rfl,(Below.refl _ _).alloc (Nat.le_refl _) _⟩
 by_cases f7:aK=7
 ·subst f7;have fb:bW 7 1 7=true:=by decide
  go_enter Tryz.func37,Tryz.ntmps37;go_upto_region 4 with (first | (go_at_call 31;((with_reducible refine (aV _ _ _ _).mono ?_);rintro e w' ⟨rfl,rfl⟩)) | (go_at_call 38;((with_reducible refine (bF _ _).mono ?_);rintro e w' ⟨rfl,rfl⟩)) | (go_at_call 17;((with_reducible refine (bZ _ _ _).mono ?_);rintro e w' ⟨rfl,rfl⟩)) | fail);by_cases w0:ay=0;rotate_left
  ·have w1:(ay !=0)=true:=by simp [w0]
   have HV:=ah (show C=3 by rw [HC.out];simp [dL,eT, *]);go_wp2_with (first | (go_at_call 31;((with_reducible refine (aV _ _ _ _).mono ?_);rintro e w' ⟨rfl,rfl⟩)) | (go_at_call 38;((with_reducible refine (bF _ _).mono ?_);rintro e w' ⟨rfl,rfl⟩)) | (go_at_call 17;((with_reducible refine (bZ _ _ _).mono ?_);rintro e w' ⟨rfl,rfl⟩)) | fail);all_goals go_ret
   all_goals exact ⟨by rw [HV.out]<;>rfl,(Below.refl _ _).alloc (Nat.le_refl _) _⟩
  subst w0;by_cases c0:aA=0;rotate_left
  ·have c1:(aA !=0)=true:=by simp [c0]
   have HV:=ah (show C=3 by rw [HC.out];simp [dL,eT, *]);go_wp2_with (first | (go_at_call 31;((with_reducible refine (aV _ _ _ _).mono ?_);rintro e w' ⟨rfl,rfl⟩)) | (go_at_call 38;((with_reducible refine (bF _ _).mono ?_);rintro e w' ⟨rfl,rfl⟩)) | (go_at_call 17;((with_reducible refine (bZ _ _ _).mono ?_);rintro e w' ⟨rfl,rfl⟩)) | fail);all_goals go_ret
   all_goals exact ⟨by rw [HV.out]<;>rfl,(Below.refl _ _).alloc (Nat.le_refl _) _⟩
  subst c0;go_upto_region 6 with (first | (go_at_call 31;((with_reducible refine (aV _ _ _ _).mono ?_);rintro e w' ⟨rfl,rfl⟩)) | (go_at_call 38;((with_reducible refine (bF _ _).mono ?_);rintro e w' ⟨rfl,rfl⟩)) | (go_at_call 17;((with_reducible refine (bZ _ _ _).mono ?_);rintro e w' ⟨rfl,rfl⟩)) | fail);rcases Bool.eq_false_or_eq_true (bW low 0 65535) with k1 | k1;rotate_left
  ·skip;have HV:=ah (show C=1 by rw [HC.out];simp [dL,eT, *]);go_wp2_with (first | (go_at_call 31;((with_reducible refine (aV _ _ _ _).mono ?_);rintro e w' ⟨rfl,rfl⟩)) | (go_at_call 38;((with_reducible refine (bF _ _).mono ?_);rintro e w' ⟨rfl,rfl⟩)) | (go_at_call 17;((with_reducible refine (bZ _ _ _).mono ?_);rintro e w' ⟨rfl,rfl⟩)) | fail);all_goals go_ret
   all_goals exact ⟨by rw [HV.out]<;>rfl,(Below.refl _ _).alloc (Nat.le_refl _) _⟩
  rcases Bool.eq_false_or_eq_true (bW aD 0 65535) with k2 | k2;rotate_left
  ·skip;have HV:=ah (show C=1 by rw [HC.out];simp [dL,eT, *]);go_wp2_with (first | (go_at_call 31;((with_reducible refine (aV _ _ _ _).mono ?_);rintro e w' ⟨rfl,rfl⟩)) | (go_at_call 38;((with_reducible refine (bF _ _).mono ?_);rintro e w' ⟨rfl,rfl⟩)) | (go_at_call 17;((with_reducible refine (bZ _ _ _).mono ?_);rintro e w' ⟨rfl,rfl⟩)) | fail);all_goals go_ret
   all_goals exact ⟨by rw [HV.out]<;>rfl,(Below.refl _ _).alloc (Nat.le_refl _) _⟩
  by_cases k3:aD<low
  ·skip;have HV:=ah (show C=1 by rw [HC.out];simp [dL,eT, *]);go_wp2_with (first | (go_at_call 31;((with_reducible refine (aV _ _ _ _).mono ?_);rintro e w' ⟨rfl,rfl⟩)) | (go_at_call 38;((with_reducible refine (bF _ _).mono ?_);rintro e w' ⟨rfl,rfl⟩)) | (go_at_call 17;((with_reducible refine (bZ _ _ _).mono ?_);rintro e w' ⟨rfl,rfl⟩)) | fail);all_goals go_ret
   all_goals exact ⟨by rw [HV.out]<;>rfl,(Below.refl _ _).alloc (Nat.le_refl _) _⟩
  have k3':low≤aD:=by omega
  go_upto_region 8 with (first | (go_at_call 31;((with_reducible refine (aV _ _ _ _).mono ?_);rintro e w' ⟨rfl,rfl⟩)) | (go_at_call 38;((with_reducible refine (bF _ _).mono ?_);rintro e w' ⟨rfl,rfl⟩)) | (go_at_call 17;((with_reducible refine (bZ _ _ _).mono ?_);rintro e w' ⟨rfl,rfl⟩)) | fail);have k5:bW 0 0 1000=true:=by decide
  rcases Bool.eq_false_or_eq_true (bW ak (-10000) 10000) with k6 | k6;rotate_left
  ·skip;have HV:=ah (show C=1 by rw [HC.out];simp [dL,eT, *]);go_wp2_with (first | (go_at_call 31;((with_reducible refine (aV _ _ _ _).mono ?_);rintro e w' ⟨rfl,rfl⟩)) | (go_at_call 38;((with_reducible refine (bF _ _).mono ?_);rintro e w' ⟨rfl,rfl⟩)) | (go_at_call 17;((with_reducible refine (bZ _ _ _).mono ?_);rintro e w' ⟨rfl,rfl⟩)) | fail);all_goals go_ret
   all_goals exact ⟨by rw [HV.out]<;>rfl,(Below.refl _ _).alloc (Nat.le_refl _) _⟩
  rcases Nat.eq_zero_or_pos l.length with l0 | l0
  ·skip;have HV:=ah (show C=8 by rw [HC.out];simp [dL,eT, *]);go_wp2_with (first | (go_at_call 31;((with_reducible refine (aV _ _ _ _).mono ?_);rintro e w' ⟨rfl,rfl⟩)) | (go_at_call 38;((with_reducible refine (bF _ _).mono ?_);rintro e w' ⟨rfl,rfl⟩)) | (go_at_call 17;((with_reducible refine (bZ _ _ _).mono ?_);rintro e w' ⟨rfl,rfl⟩)) | fail);all_goals go_ret
   all_goals exact ⟨by rw [HV.out]<;>rfl,(Below.refl _ _).alloc (Nat.le_refl _) _⟩
  have l0':¬l.length=0:=by omega
  have l0'':((l.length:Int)==0)=false:=by rw [beq_eq_false_iff_ne];omega
  by_cases l5:50<l.length
  ·skip;have HV:=ah (show C=2 by rw [HC.out];simp [dL,eT, *]);go_wp2_with (first | (go_at_call 31;((with_reducible refine (aV _ _ _ _).mono ?_);rintro e w' ⟨rfl,rfl⟩)) | (go_at_call 38;((with_reducible refine (bF _ _).mono ?_);rintro e w' ⟨rfl,rfl⟩)) | (go_at_call 17;((with_reducible refine (bZ _ _ _).mono ?_);rintro e w' ⟨rfl,rfl⟩)) | fail);all_goals go_ret
   all_goals exact ⟨by rw [HV.out]<;>rfl,(Below.refl _ _).alloc (Nat.le_refl _) _⟩
  have l5':l.length≤50:=by omega
  obtain ⟨b,off,rfl,hbb,uM⟩:=HS.out (by intro h;subst h;simp at l0);have HC9:=ah uM;have qO:=ah (show C=if l.all fV=true then (if bW (dh l) 1 3600000=true then 0 else 1) else 1 by rw [HC.out];unfold dL;rw [show (0:Int)+dh l=dh l by omega];generalize bW (dh l) 1 3600000=cy;cases hst:l.all fV<;>cases cy<;>simp [eT, *])
  have dI:=ah (show ∀W,Below (w.heap.size+1) (w.alloc (.cells #[.int .i64 7,.int .i64 low,.int .i64 aD,.int .i64 0,.int .i64 0,.int .i64 ak,.bool aI,.bool rel,.slice (some ⟨b,off,none⟩) l.length cap] 28)) W→(W.cell? ⟨w.heap.size,0,none⟩=some (.int .i64 7)∧W.cell? ⟨w.heap.size,1,none⟩=some (.int .i64 low)∧W.cell? ⟨w.heap.size,2,none⟩=some (.int .i64 aD)∧W.cell? ⟨w.heap.size,3,none⟩=some (.int .i64 0)∧W.cell? ⟨w.heap.size,4,none⟩=some (.int .i64 0)∧W.cell? ⟨w.heap.size,5,none⟩=some (.int .i64 ak)∧W.cell? ⟨w.heap.size,6,none⟩=some (.bool aI)∧W.cell? ⟨w.heap.size,7,none⟩=some (.bool rel)∧W.cell? ⟨w.heap.size,8,none⟩=some (.slice (some ⟨b,off,none⟩) l.length cap)) from fun W hW=>by
   refine ⟨?_,?_,?_,?_,?_,?_,?_,?_,?_⟩
   ·exact (hW.cell (p:=⟨w.heap.size,0,none⟩) (by simp)).trans (by simp [go_sem])
   ·exact (hW.cell (p:=⟨w.heap.size,1,none⟩) (by simp)).trans (by simp [go_sem])
   ·exact (hW.cell (p:=⟨w.heap.size,2,none⟩) (by simp)).trans (by simp [go_sem])
   ·exact (hW.cell (p:=⟨w.heap.size,3,none⟩) (by simp)).trans (by simp [go_sem])
   ·exact (hW.cell (p:=⟨w.heap.size,4,none⟩) (by simp)).trans (by simp [go_sem])
   ·exact (hW.cell (p:=⟨w.heap.size,5,none⟩) (by simp)).trans (by simp [go_sem])
   ·exact (hW.cell (p:=⟨w.heap.size,6,none⟩) (by simp)).trans (by simp [go_sem])
   ·exact (hW.cell (p:=⟨w.heap.size,7,none⟩) (by simp)).trans (by simp [go_sem])
   ·exact (hW.cell (p:=⟨w.heap.size,8,none⟩) (by simp)).trans (by simp [go_sem])
  )
  clear uM;go_wp2_with (first | (go_at_call 31;((with_reducible refine (aV _ _ _ _).mono ?_);rintro e w' ⟨rfl,rfl⟩)) | (go_at_call 38;((with_reducible refine (bF _ _).mono ?_);rintro e w' ⟨rfl,rfl⟩)) | (go_at_call 17;((with_reducible refine (bZ _ _ _).mono ?_);rintro e w' ⟨rfl,rfl⟩)) | fail);go_loopw [96] (fun i wr=>∃k:Nat,k≤l.length∧i=.int .i64 k∧Hid ((l.take k).all fV=true)∧Below (w.heap.size+1) (w.alloc (.cells #[.int .i64 7,.int .i64 low,.int .i64 aD,.int .i64 0,.int .i64 0,.int .i64 ak,.bool aI,.bool rel,.slice (some ⟨b,off,none⟩) l.length cap] 28)) wr) (fun i _=>l.length-(intOf i).toNat)
  case atStart=>exact ⟨0,Nat.zero_le _,rfl,ah (by simp),Below.refl _ _⟩
  case round=>
   obtain ⟨k,hk,rfl,HAK,hbw⟩:=hrel;have HB:=ah hbw;have bA:=ah (show Below w.heap.size w wr from ((Below.refl _ _).alloc (Nat.le_refl _) _).trans (hbw.mono (by omega)));have yP:=hbw.size;simp at yP;by_cases hlt:k<l.length
   ·obtain ⟨c0,c1,c2⟩:=HC9.out k hlt;have d0:wr.cell? ⟨b,off+k*3,none⟩=some (.int .i64 l[k].lv):=(bA.out.cell (p:=⟨b,off+k*3,none⟩) hbb).trans c0;have d1:wr.cell? ⟨b,off+k*3+1,none⟩=some (.int .i64 l[k].hold):=(bA.out.cell (p:=⟨b,off+k*3+1,none⟩) hbb).trans c1;have d2:wr.cell? ⟨b,off+k*3+2,none⟩=some (.int .i64 l[k].bG):=(bA.out.cell (p:=⟨b,off+k*3+2,none⟩) hbb).trans c2;have hbr:b<wr.heap.size:=by omega
    have HNO:=ah (fun (h:fV l[k]=false)=>(show C=1 by
     have h2:¬l.all fV=true:=by
      intro h3;rw [List.all_eq_true.1 h3 _ (List.getElem_mem hlt)] at h;cases h
     rw [qO.out,if_neg h2]))
    have vT:=ah (show (l.take (k+1)).all fV=((l.take k).all fV&&fV l[k]) by rw [List.take_succ_eq_append_getElem hlt,List.all_append];simp);have iB:=ah (show fV l[k]=(bW l[k].lv 0 65535&&bW l[k].hold 0 3600000&&bW l[k].bG 0 3600000) from rfl);clear hbw c0 c1 c2;rcases Bool.eq_false_or_eq_true (bW l[k].lv 0 65535) with m0 | m0;rotate_left
    ·have HV:=ah (HNO.out (by rw [iB.out];simp [*]));go_wp2_with (first | (go_at_call 31;((with_reducible refine (aV _ _ _ _).mono ?_);rintro e w' ⟨rfl,rfl⟩)) | (go_at_call 38;((with_reducible refine (bF _ _).mono ?_);rintro e w' ⟨rfl,rfl⟩)) | (go_at_call 17;((with_reducible refine (bZ _ _ _).mono ?_);rintro e w' ⟨rfl,rfl⟩)) | fail);all_goals go_ret
     all_goals exact ⟨by rw [HV.out]<;>rfl,bA.out.alloc (by omega) _⟩
    rcases Bool.eq_false_or_eq_true (bW l[k].hold 0 3600000) with m1 | m1;rotate_left
    ·have HV:=ah (HNO.out (by rw [iB.out];simp [*]));go_wp2_with (first | (go_at_call 31;((with_reducible refine (aV _ _ _ _).mono ?_);rintro e w' ⟨rfl,rfl⟩)) | (go_at_call 38;((with_reducible refine (bF _ _).mono ?_);rintro e w' ⟨rfl,rfl⟩)) | (go_at_call 17;((with_reducible refine (bZ _ _ _).mono ?_);rintro e w' ⟨rfl,rfl⟩)) | fail);all_goals go_ret
     all_goals exact ⟨by rw [HV.out]<;>rfl,bA.out.alloc (by omega) _⟩
    rcases Bool.eq_false_or_eq_true (bW l[k].bG 0 3600000) with m2 | m2;rotate_left
    ·have HV:=ah (HNO.out (by rw [iB.out];simp [*]));go_wp2_with (first | (go_at_call 31;((with_reducible refine (aV _ _ _ _).mono ?_);rintro e w' ⟨rfl,rfl⟩)) | (go_at_call 38;((with_reducible refine (bF _ _).mono ?_);rintro e w' ⟨rfl,rfl⟩)) | (go_at_call 17;((with_reducible refine (bZ _ _ _).mono ?_);rintro e w' ⟨rfl,rfl⟩)) | fail);all_goals go_ret
     all_goals exact ⟨by rw [HV.out]<;>rfl,bA.out.alloc (by omega) _⟩
    have HQ:=ah (show (l.take (k+1)).all fV=true by rw [vT.out,HAK.out,iB.out,m0,m1,m2];rfl);go_wp2_with (first | (go_at_call 31;((with_reducible refine (aV _ _ _ _).mono ?_);rintro e w' ⟨rfl,rfl⟩)) | (go_at_call 38;((with_reducible refine (bF _ _).mono ?_);rintro e w' ⟨rfl,rfl⟩)) | (go_at_call 17;((with_reducible refine (bZ _ _ _).mono ?_);rintro e w' ⟨rfl,rfl⟩)) | fail);go_roundw
    case rel=>
     first
      | exact ⟨k+1,by omega,by go_num,HQ,HB.out.alloc (by omega) _⟩
      | ((repeat apply Exists.intro);refine ⟨⟨k+1,by omega,by go_num,HQ,HB.out.alloc (by omega) _⟩,?_⟩;rfl)
    case measure=>simp [intOf];omega
   ·have hkk:k=l.length:=by omega
    have hall:=HAK.out;rw [hkk,List.take_length] at hall;obtain ⟨e0,e1,e2,e3,e4,e5,e6,e7,e8⟩:=dI.out wr hbw;have hwb:w.heap.size<wr.heap.size:=by omega
    have CY2:=ah (CY.out wr bA.out l5' hall (by first | trivial | omega) (by first | trivial | rfl));rw [show (0:Int)+dh l=dh l by omega] at CY2;have HCZ:=ah (show C=dN (!bW (dh l) 1 3600000) 1 by rw [qO.out,if_pos hall];unfold dN;cases bW (dh l) 1 3600000<;>rfl);subst hkk;generalize dh l=sm at *;clear hbw hall HAK HB;go_wp2_with fail;refine CY2.out.mono ?_;rintro e wE ⟨rfl,hbE⟩;have gu:=ah (show Below w.heap.size w wE from bA.out.trans (hbE.mono (by omega)));clear hbE e0 e1 e2 e3 e4 e5 e6 e7 e8;go_wp2_with (first | (go_at_call 31;((with_reducible refine (aV _ _ _ _).mono ?_);rintro e w' ⟨rfl,rfl⟩)) | (go_at_call 38;((with_reducible refine (bF _ _).mono ?_);rintro e w' ⟨rfl,rfl⟩)) | (go_at_call 17;((with_reducible refine (bZ _ _ _).mono ?_);rintro e w' ⟨rfl,rfl⟩)) | fail);all_goals go_ret
    all_goals exact ⟨by rw [HCZ.out]<;>rfl,gu.out⟩
 have f4':(aK==4)=false:=by simp [f4]
 have f4'':(aK !=4)=true:=by simp [f4]
 have f7':(aK==7)=false:=by simp [f7]
 have f7'':(aK !=7)=true:=by simp [f7]
 go_enter Tryz.func37,Tryz.ntmps37;rcases Bool.eq_false_or_eq_true (bW aK 1 7) with fb | fb;rotate_left
 ·skip;have HV:=ah (show C=4 by rw [HC.out];simp [dL,eT, *]);go_wp2_with (first | (go_at_call 31;((with_reducible refine (aV _ _ _ _).mono ?_);rintro e w' ⟨rfl,rfl⟩)) | (go_at_call 38;((with_reducible refine (bF _ _).mono ?_);rintro e w' ⟨rfl,rfl⟩)) | (go_at_call 17;((with_reducible refine (bZ _ _ _).mono ?_);rintro e w' ⟨rfl,rfl⟩)) | fail);all_goals go_ret
  all_goals exact ⟨by rw [HV.out]<;>rfl,(Below.refl _ _).alloc (Nat.le_refl _) _⟩
 go_upto_region 4 with (first | (go_at_call 31;((with_reducible refine (aV _ _ _ _).mono ?_);rintro e w' ⟨rfl,rfl⟩)) | (go_at_call 38;((with_reducible refine (bF _ _).mono ?_);rintro e w' ⟨rfl,rfl⟩)) | (go_at_call 17;((with_reducible refine (bZ _ _ _).mono ?_);rintro e w' ⟨rfl,rfl⟩)) | fail);by_cases w0:ay=0;rotate_left
 ·have w1:(ay !=0)=true:=by simp [w0]
  have HV:=ah (show C=3 by rw [HC.out];simp [dL,eT, *]);go_wp2_with (first | (go_at_call 31;((with_reducible refine (aV _ _ _ _).mono ?_);rintro e w' ⟨rfl,rfl⟩)) | (go_at_call 38;((with_reducible refine (bF _ _).mono ?_);rintro e w' ⟨rfl,rfl⟩)) | (go_at_call 17;((with_reducible refine (bZ _ _ _).mono ?_);rintro e w' ⟨rfl,rfl⟩)) | fail);all_goals go_ret
  all_goals exact ⟨by rw [HV.out]<;>rfl,(Below.refl _ _).alloc (Nat.le_refl _) _⟩
 subst w0;rcases Nat.eq_zero_or_pos l.length with l0 | l0;rotate_left
 ·have l0':¬l.length=0:=by omega
  have HV:=ah (show C=3 by rw [HC.out];simp [dL,eT, *]);go_wp2_with (first | (go_at_call 31;((with_reducible refine (aV _ _ _ _).mono ?_);rintro e w' ⟨rfl,rfl⟩)) | (go_at_call 38;((with_reducible refine (bF _ _).mono ?_);rintro e w' ⟨rfl,rfl⟩)) | (go_at_call 17;((with_reducible refine (bZ _ _ _).mono ?_);rintro e w' ⟨rfl,rfl⟩)) | fail);all_goals go_ret
  all_goals exact ⟨by rw [HV.out]<;>rfl,(Below.refl _ _).alloc (Nat.le_refl _) _⟩
 go_upto_region 6 with (first | (go_at_call 31;((with_reducible refine (aV _ _ _ _).mono ?_);rintro e w' ⟨rfl,rfl⟩)) | (go_at_call 38;((with_reducible refine (bF _ _).mono ?_);rintro e w' ⟨rfl,rfl⟩)) | (go_at_call 17;((with_reducible refine (bZ _ _ _).mono ?_);rintro e w' ⟨rfl,rfl⟩)) | fail);rcases Bool.eq_false_or_eq_true (bW low 0 65535) with k1 | k1;rotate_left
 ·skip;have HV:=ah (show C=1 by rw [HC.out];simp [dL,eT, *]);go_wp2_with (first | (go_at_call 31;((with_reducible refine (aV _ _ _ _).mono ?_);rintro e w' ⟨rfl,rfl⟩)) | (go_at_call 38;((with_reducible refine (bF _ _).mono ?_);rintro e w' ⟨rfl,rfl⟩)) | (go_at_call 17;((with_reducible refine (bZ _ _ _).mono ?_);rintro e w' ⟨rfl,rfl⟩)) | fail);all_goals go_ret
  all_goals exact ⟨by rw [HV.out]<;>rfl,(Below.refl _ _).alloc (Nat.le_refl _) _⟩
 rcases Bool.eq_false_or_eq_true (bW aD 0 65535) with k2 | k2;rotate_left
 ·skip;have HV:=ah (show C=1 by rw [HC.out];simp [dL,eT, *]);go_wp2_with (first | (go_at_call 31;((with_reducible refine (aV _ _ _ _).mono ?_);rintro e w' ⟨rfl,rfl⟩)) | (go_at_call 38;((with_reducible refine (bF _ _).mono ?_);rintro e w' ⟨rfl,rfl⟩)) | (go_at_call 17;((with_reducible refine (bZ _ _ _).mono ?_);rintro e w' ⟨rfl,rfl⟩)) | fail);all_goals go_ret
  all_goals exact ⟨by rw [HV.out]<;>rfl,(Below.refl _ _).alloc (Nat.le_refl _) _⟩
 by_cases k3:aD<low
 ·skip;have HV:=ah (show C=1 by rw [HC.out];simp [dL,eT, *]);go_wp2_with (first | (go_at_call 31;((with_reducible refine (aV _ _ _ _).mono ?_);rintro e w' ⟨rfl,rfl⟩)) | (go_at_call 38;((with_reducible refine (bF _ _).mono ?_);rintro e w' ⟨rfl,rfl⟩)) | (go_at_call 17;((with_reducible refine (bZ _ _ _).mono ?_);rintro e w' ⟨rfl,rfl⟩)) | fail);all_goals go_ret
  all_goals exact ⟨by rw [HV.out]<;>rfl,(Below.refl _ _).alloc (Nat.le_refl _) _⟩
 have k3':low≤aD:=by omega
 go_upto_region 8 with (first | (go_at_call 31;((with_reducible refine (aV _ _ _ _).mono ?_);rintro e w' ⟨rfl,rfl⟩)) | (go_at_call 38;((with_reducible refine (bF _ _).mono ?_);rintro e w' ⟨rfl,rfl⟩)) | (go_at_call 17;((with_reducible refine (bZ _ _ _).mono ?_);rintro e w' ⟨rfl,rfl⟩)) | fail);rcases Bool.eq_false_or_eq_true (bW aA 1 3600000) with k4 | k4;rotate_left
 ·skip;have HV:=ah (show C=1 by rw [HC.out];simp [dL,eT, *]);go_wp2_with (first | (go_at_call 31;((with_reducible refine (aV _ _ _ _).mono ?_);rintro e w' ⟨rfl,rfl⟩)) | (go_at_call 38;((with_reducible refine (bF _ _).mono ?_);rintro e w' ⟨rfl,rfl⟩)) | (go_at_call 17;((with_reducible refine (bZ _ _ _).mono ?_);rintro e w' ⟨rfl,rfl⟩)) | fail);all_goals go_ret
  all_goals exact ⟨by rw [HV.out]<;>rfl,(Below.refl _ _).alloc (Nat.le_refl _) _⟩
 have k5:bW 0 0 1000=true:=by decide
 rcases Bool.eq_false_or_eq_true (bW ak (-10000) 10000) with k6 | k6;rotate_left
 ·skip;have HV:=ah (show C=1 by rw [HC.out];simp [dL,eT, *]);go_wp2_with (first | (go_at_call 31;((with_reducible refine (aV _ _ _ _).mono ?_);rintro e w' ⟨rfl,rfl⟩)) | (go_at_call 38;((with_reducible refine (bF _ _).mono ?_);rintro e w' ⟨rfl,rfl⟩)) | (go_at_call 17;((with_reducible refine (bZ _ _ _).mono ?_);rintro e w' ⟨rfl,rfl⟩)) | fail);all_goals go_ret
  all_goals exact ⟨by rw [HV.out]<;>rfl,(Below.refl _ _).alloc (Nat.le_refl _) _⟩
 have HV:=ah (show C=0 by rw [HC.out];simp [dL,eT, *]);go_wp2_with (first | (go_at_call 31;((with_reducible refine (aV _ _ _ _).mono ?_);rintro e w' ⟨rfl,rfl⟩)) | (go_at_call 38;((with_reducible refine (bF _ _).mono ?_);rintro e w' ⟨rfl,rfl⟩)) | (go_at_call 17;((with_reducible refine (bZ _ _ _).mono ?_);rintro e w' ⟨rfl,rfl⟩)) | fail);all_goals go_ret
 all_goals exact ⟨by rw [HV.out]<;>rfl,(Below.refl _ _).alloc (Nat.le_refl _) _⟩
theorem row2r {k:IntKind} {W:World} {b:Nat} {x y:Int} (h1:W.cell? ⟨b,0,none⟩=some (.int k x)) (h2:W.cell? ⟨b,1,none⟩=some (.int k y)):RB k W b 0 [x,y]:=by
 intro i h
 match i,h with
 | 0,_=>simpa using h1
 | 1,_=>simpa using h2
theorem row3r {k:IntKind} {W:World} {b:Nat} {x y z:Int} (h1:W.cell? ⟨b,0,none⟩=some (.int k x)) (h2:W.cell? ⟨b,1,none⟩=some (.int k y)) (h3:W.cell? ⟨b,2,none⟩=some (.int k z)):RB k W b 0 [x,y,z]:=by
 intro i h
 match i,h with
 | 0,_=>simpa using h1
 | 1,_=>simpa using h2
 | 2,_=>simpa using h3
def ru (x y:Int):Int:=if x=0 then y else x
def fi3 (x y z:Int):Int:=if x=0 then ru y z else x
theorem Ra (x y:Int):oG [x,y]=ru x y:=by
 simp only [oG,ru];split
 ·split<;>simp_all
 ·rfl
theorem fi3_eq (x y z:Int):oG [x,y,z]=fi3 x y z:=by
 unfold fi3;rw [←Ra];rfl
theorem Kz (b:Nat) (x y:Int) (W:World) (h1:W.cell? ⟨b,0,none⟩=some (.int .i64 x)) (h2:W.cell? ⟨b,1,none⟩=some (.int .i64 y)) :
  Calls Tryz.prog 14 #[.slice (some ⟨b,0,none⟩) 2 2] W fun e w'=>e=.returned (.int .i64 (ru x y))∧W=w':=by
 rw [←Ra];exact Ct b 0 2 [x,y] W (by simp) (row2r h1 h2)
theorem first_3 (b:Nat) (x y z:Int) (W:World) (h1:W.cell? ⟨b,0,none⟩=some (.int .i64 x)) (h2:W.cell? ⟨b,1,none⟩=some (.int .i64 y)) (h3:W.cell? ⟨b,2,none⟩=some (.int .i64 z)) :
  Calls Tryz.prog 14 #[.slice (some ⟨b,0,none⟩) 3 3] W fun e w'=>e=.returned (.int .i64 (fi3 x y z))∧W=w':=by
 rw [←fi3_eq];exact Ct b 0 3 [x,y,z] W (by simp) (row3r h1 h2 h3)
theorem fU (n:Int) (w:World):Calls Tryz.prog 18 #[.int .i64 n] w fun e w'=>e=.returned (.bool (bW n 0 36000000))∧w=w':=by
 go_enter Tryz.func18,Tryz.ntmps18;go_wp2_with (go_at_call 31;refine (aV _ _ _ _).mono ?_;rintro e w' ⟨rfl,rfl⟩);go_ret;exact ⟨rfl,rfl⟩
theorem gK (n:Int) (w:World):Calls Tryz.prog 22 #[.int .i64 n] w fun e w'=>e=.returned (.bool (bW n 0 36000000))∧w=w':=by
 go_enter Tryz.func22,Tryz.ntmps22;go_wp2_with (go_at_call 45;refine (aR _ _ _ _).mono ?_;rintro e w' ⟨rfl,rfl⟩);go_ret;exact ⟨rfl,rfl⟩
def rF (aB:Int):Option Int→List (Int×Int)→Int
 | _,[]=>0
 | p,r::l=>if bW r.1 aB 36000000&&bW r.2 0 1000 then (if p.any (fun q=>decide (r.1≤q)) then 7 else rF aB (some r.1) l) else 1
def nu (l:List (Int×Int)) (k:Nat):Option Int:=if k=0 then none else (l[k-1]?).map (·.1)
theorem Km (aB:Int) (l:List (Int×Int)) (k:Nat) (h:k<l.length) :
  rF aB (nu l k) (l.drop k)=if bW l[k].1 aB 36000000&&bW l[k].2 0 1000 then (if (nu l k).any (fun q=>decide (l[k].1≤q)) then 7 else rF aB (nu l (k+1)) (l.drop (k+1))) else 1:=by
 rw [List.drop_eq_getElem_cons h];simp only [rF];have:nu l (k+1)=some l[k].1:=by simp [nu,List.getElem?_eq_getElem h]
 rw [this]
theorem BQ (l:List (Int×Int)) (k:Nat) (h0:0<k) (h:k<l.length):nu l k=some (l[k-1]'(by omega)).1:=by
 unfold nu;rw [if_neg (by omega),List.getElem?_eq_getElem (by omega)];rfl
def nJ (aB bP aN aQ:Int):Bool:=!bW aB 0 36000000||!bW bP 0 36000000||!bW aQ 0 36000000||(decide (aN≠-1)&&!bW aN aB 36000000)
def qV (aB bP aN aQ:Int) (aJ:List (Int×Int)):Int:=
 if nJ aB bP aN aQ then 1 else if decide (aN=-1)&&decide (aQ≠0) then 3 else if 50<aJ.length then 2 else rF aB none aJ
def sF (ke:Int) (aO:List (Int×ByteArray)):Int:=fi3 ke (dN (decide (aO.length=0)) 8) (dN (decide (400<aO.length)) 2)
theorem yE {α:Type} (l:List α) (k:Nat) (h:k<l.length):(l.take (k+1)).Nodup↔(l.take k).Nodup∧l[k]∉l.take k:=by
 rw [List.take_succ_eq_append_getElem h,List.nodup_append];simp
 intro _;constructor
 ·intro h1 h2;exact h1 _ h2 rfl
 ·intro h1 a ha e;subst e;exact h1 ha
end Go.Proofs.YtopmdeefcjdadaaGreat
namespace Go.Proofs.YtopmdeefcjdadaaGreat
open Go.Maps (Keyed IsMap atKey_put_same atKey_put_other)
open Go.ChangeShapes Go.WideShapes Go.RowKit
section
variable {H:Type}
theorem ny {P:Program} {e:TypeId} (he:P.underlying e=some .bool) {v:Value} {z:DataW H×List MemPlace} (h:plainElem P e v=some z):∃x,v=.bool x∧z=(.lit (.bool x),[]):=by
 unfold plainElem at h;rw [he] at h;cases v<;>simp at h
 exact ⟨_,rfl,h.symm⟩
structure dH (w:World) (P:Program) (k e:TypeId) (b n:Nat) (S:List Lit):Prop where
 own:∃D:DataW Unit,w.ownsMap P k (plainElem P e) b n D∧IsMap D∧∀kl,∃c:Bool,D.atKey kl (.lit (.bool false))=.lit (.bool c)∧(c=true↔kl∈S)
theorem mR (w:World) (P:Program) (k e:TypeId):dH (w.alloc (.map #[] 0)) P k e w.heap.size 0 []:=
 ⟨.map [],World.ownsMap_made w P k _,⟨_,rfl⟩,fun kl=>⟨false,by rw [WideAt.atKey_none _ (by simp)],by simp⟩⟩
theorem dH.kept {w w':World} {P:Program} {k e:TypeId} {b n:Nat} {S:List Lit} {row:Option Nat} (h:dH w P k e b n S) (hg:w.grownBy w' row) (hne:some b≠row):dH w' P k e b n S:=by
 obtain ⟨D,h1,h2,h3⟩:=h.own;exact ⟨D,h1.kept hg hne,h2,h3⟩
theorem dH.below {B:Nat} {w w':World} {P:Program} {k e:TypeId} {b n:Nat} {S:List Lit} (h:dH w P k e b n S) (hb:Below B w w') (hlt:b<B):dH w' P k e b n S:=by
 obtain ⟨D,⟨es,clock,h1,h2,h3,h4⟩,h5,h6⟩:=h.own;exact ⟨D,⟨es,clock,(hb.block _ hlt).trans h1,h2,h3,h4⟩,h5,h6⟩
theorem dH.lt {w:World} {P:Program} {k e:TypeId} {b n:Nat} {S:List Lit} (h:dH w P k e b n S):b<w.heap.size:=by
 obtain ⟨D,h1,h2,h3⟩:=h.own;exact h1.lt
theorem jT {P:Program} (w:World) {ops:Array Oper} {rest:List Oper} {o:Oper} {a:Act} {Q:Exit→Act→World→Prop}
  (hg:o.guard=none) (m x:Operand) (t:TypeId) (hop:o.op=Op.lookup t m x false)
  (k e:TypeId) (K:Keyed P k) (ht:P.underlying t=some (.map k e)) (he:P.underlying e=some .bool) (hz:(zeroValue e).run P w=.ok (.bool false) w) (b n:Nat) (S:List Lit)
  (hm:a.eval m=.map (some b)) (hown:dH w P k e b n S) (key:Value) (kl:Lit) (hx:a.eval x=key) (hkey:keyOf P k key=some kl)
  (hK:∀c:Bool,(c=true↔kl∈S)→wpList P ops Q rest (a.put o.dst (.bool c)) w) :
  wpList P ops Q (o::rest) a w:=by
 refine wpList_plain hg fun K' hK'=>?_;obtain ⟨D,h1,h2,h3⟩:=hown.own;obtain ⟨v,ps,hrun,hv⟩:=h1.lookup K ht hz (plainElem_bool he false) hkey;obtain ⟨x',rfl,hx'⟩:=ny he hv;obtain ⟨c,h4,h5⟩:=h3 kl;rw [h4] at hx';simp at hx';obtain ⟨hxe,rfl⟩:=hx';subst hxe;unfold Oper.wp;simp [execOp,hop,hm,hx,hrun,Result.andThen];exact hK' _ _ (hK c h5)
theorem dH.put {w':World} {P:Program} {k e:TypeId} {b n:Nat} {S:List Lit} {D:DataW Unit} {kl:Lit} (hD:IsMap D) (h3:∀kl,∃c:Bool,D.atKey kl (.lit (.bool false))=.lit (.bool c)∧(c=true↔kl∈S)) (hk:WideAt.IsKeyLit kl)
  (h:w'.ownsMap P k (plainElem P e) b n (D.put kl (.lit (.bool true)))):dH w' P k e b n (S++[kl]):=by
 refine ⟨_,h,hD.put _ _,fun kl'=>?_⟩;by_cases c:kl'=kl
 ·subst c;exact ⟨true,atKey_put_same hD hk _ _,by simp⟩
 ·obtain ⟨x,h4,h5⟩:=h3 kl';exact ⟨x,(atKey_put_other c _ _).trans h4,by rw [h5];simp [c]⟩
theorem lZ {P:Program} (w:World) {ops:Array Oper} {rest:List Oper} {o:Oper} {a:Act} {Q:Exit→Act→World→Prop}
  (hg:o.guard=none) (m x v:Operand) (t:TypeId) (hop:o.op=Op.mapUpdate t m x v)
  (k e:TypeId) (K:Keyed P k) (ht:P.underlying t=some (.map k e)) (he:P.underlying e=some .bool) (b n:Nat) (S:List Lit)
  (hm:a.eval m=.map (some b)) (hown:dH w P k e b n S) (hn:n<maxLen) (key:Value) (kl:Lit) (hx:a.eval x=key) (hv:a.eval v=.bool true) (hkey:keyOf P k key=some kl)
  (hK:∀w',dH w' P k e b (n+1) (S++[kl])→w.grownBy w' (some b)→wpList P ops Q rest (a.put o.dst undef) w') :
  wpList P ops Q (o::rest) a w:=by
 obtain ⟨D,h1,h2,h3⟩:=hown.own;exact wpList_mapUpdate_own w hg m x v t hop k e K ht _ b n D hm h1 hn key _ kl hx hv hkey _ [] (plainElem_bool he true) fun w' r1 r2=>hK w' (dH.put h2 h3 (K.key hkey) r1) r2
end
end Go.Proofs.YtopmdeefcjdadaaGreat
namespace Go.Proofs.YtopmdeefcjdadaaGreat
open Go.RowKit
theorem dz {B:Nat} {w W:World} (h:Below B w W) (n:Nat):Below B w (W.drewN n):=⟨h.os,h.tape,h.output,h.size,h.block⟩
theorem sP (w:World):(zeroValue 4).run Tryz.prog w=.ok (.bool false) w:=by kernel_rfl
theorem pW {B:Nat} {w:World} {ao:Option Addr} {cap:Nat} {l:List Stp} (h:StS B w (.slice ao l.length cap) l):eH B w ao l:=by
 obtain ⟨ao',cap',e,_,h2⟩:=h;injection e with e1 _ e3;subst e1;exact h2
end Go.Proofs.YtopmdeefcjdadaaGreat
namespace Go.Proofs.YtopmdeefcjdadaaGreat
def kN (t:Int):Int→Int→List (Int×Int)→Int
 | s,p,[]=>(t-s)*p
 | s,p,r::l=>if t≤r.1 then (t-s)*p else (r.1-s)*p+kN t r.1 r.2 l
def mo (aB:Int) (aJ:List (Int×Int)) (t:Int):Int:=if t≤aB then 0 else kN t aB 100 aJ
def jO (aB:Int):List (Int×Int)→Prop
 | []=>True
 | r::l=>(aB≤r.1∧r.1≤36000000∧0≤r.2∧r.2≤1000∧(∀q∈l,r.1<q.1))∧jO aB l
theorem nZ (n a b:Int):bW n a b=true↔a≤n∧n≤b:=by simp [bW]
theorem rF_any (aB:Int) (l:List (Int×Int)):∀p,rF aB p l=0→jO aB l∧∀q,p=some q→∀r∈l,q<r.1:=by
 induction l with
 | nil=>intro p _;exact ⟨trivial,fun _ _ r h=>by cases h⟩
 | cons r l ih=>
  intro p h;simp only [rF] at h;split at h
  ·rename_i hc
   rw [Bool.and_eq_true,nZ,nZ] at hc;split at h
   ·omega
   ·rename_i hp
    obtain ⟨h1,h2⟩:=ih _ h;refine ⟨⟨⟨hc.1.1,hc.1.2,hc.2.1,hc.2.2,h2 _ rfl⟩,h1⟩,?_⟩;intro q hq s hs;subst hq;simp at hp;rcases List.mem_cons.1 hs with rfl | hs
    ·exact hp
    ·have:=h2 _ rfl s hs;omega
  ·omega
theorem rF_of (aB:Int) (l:List (Int×Int)):∀p,jO aB l→(∀q,p=some q→∀r∈l,q<r.1)→rF aB p l=0:=by
 induction l with
 | nil=>intros;rfl
 | cons r l ih=>
  intro p ⟨⟨h1,h2,h3,h4,h5⟩,h6⟩ hp;simp only [rF];rw [if_pos (by rw [Bool.and_eq_true,nZ,nZ];exact ⟨⟨h1,h2⟩,h3,h4⟩),if_neg]
  ·exact ih _ h6 (fun q hq s hs=>by cases hq;exact h5 s hs)
  ·cases p with
   | none=>simp
   | some q=>have:=hp q rfl r (by simp);simp;exact this
theorem Fp (aB:Int) (l:List (Int×Int)):rF aB none l=0↔jO aB l:=
 ⟨fun h=>(rF_any aB l _ h).1,fun h=>rF_of aB l _ h (fun _ h=>by cases h)⟩
theorem rO {aB:Int} {l:List (Int×Int)} (h:jO aB l):∀k (hk:k<l.length),aB≤l[k].1∧l[k].1≤36000000∧0≤l[k].2∧l[k].2≤1000∧∀j (hj:j<k),l[j].1<l[k].1:=by
 induction l with
 | nil=>intro k hk;simp at hk
 | cons r l ih=>
  obtain ⟨⟨a1,a2,a3,a4,a5⟩,a6⟩:=h;intro k hk
  cases k with
  | zero=>exact ⟨a1,a2,a3,a4,fun j hj=>by omega⟩
  | succ k=>
   obtain ⟨b1,b2,b3,b4,b5⟩:=ih a6 k (by simpa using hk);refine ⟨b1,b2,b3,b4,fun j hj=>?_⟩
   cases j with
   | zero=>exact a5 _ (List.getElem_mem _)
   | succ j=>exact b5 j (by omega)
theorem DU {a p:Int} (h0:0≤a) (h2:0≤p) (h3:p≤1000):0≤a*p∧a*p≤1000*a:=by
 have e1:=Int.mul_nonneg h0 h2;have e2:=Int.mul_le_mul_of_nonneg_left h3 h0;omega
theorem clkL_bd (t aB:Int) (l:List (Int×Int)):∀s q,s≤t→0≤q→q≤1000→jO aB l→(∀r∈l,s≤r.1)→0≤kN t s q l∧kN t s q l≤1000*(t-s):=by
 induction l with
 | nil=>intro s q h1 h2 h3 _ _;exact DU (by omega) h2 h3
 | cons r l ih=>
  intro s q h1 h2 h3 ⟨⟨a1,a2,a3,a4,a5⟩,a6⟩ h5;simp only [kN];split
  ·exact DU (by omega) h2 h3
  ·have:=ih r.1 r.2 (by omega) a3 a4 a6 (fun x hx=>Int.le_of_lt (a5 x hx));have:=DU (a:=r.1-s) (p:=q) (by have:=h5 r (by simp);omega) h2 h3;omega
theorem IB {aB:Int} {l:List (Int×Int)} (h:jO aB l):∀r∈l,aB≤r.1:=by
 induction l with
 | nil=>intro r hr;cases hr
 | cons a l ih=>
  intro r hr;rcases List.mem_cons.1 hr with rfl | hr
  ·exact h.1.1
  ·exact ih h.2 r hr
theorem KF {aB t:Int} {l:List (Int×Int)} (h:jO aB l) (h0:0≤aB) (h1:t≤36000000):0≤mo aB l t∧mo aB l t≤36000000000:=by
 unfold mo;split
 ·omega
 ·have:=clkL_bd t aB l aB 100 (by omega) (by omega) (by omega) h (IB h);omega
end Go.Proofs.YtopmdeefcjdadaaGreat
namespace Go.Proofs.YtopmdeefcjdadaaGreat
open Go.RowKit
theorem sU (w:World) (c0 c1 c2 c3 c4 c5 c6 c7 c8 c9 c10 c11 c12 c13 c14:Value) (T:TypeId):∀W,Below (w.heap.size+1) (w.alloc (.cells #[c0,c1,c2,c3,c4,c5,c6,c7,c8,c9,c10,c11,c12,c13,c14] T)) W→Below w.heap.size w W∧w.heap.size<W.heap.size∧(W.cell? ⟨w.heap.size,0,none⟩=some c0∧W.cell? ⟨w.heap.size,1,none⟩=some c1∧W.cell? ⟨w.heap.size,2,none⟩=some c2∧W.cell? ⟨w.heap.size,3,none⟩=some c3∧W.cell? ⟨w.heap.size,4,none⟩=some c4∧W.cell? ⟨w.heap.size,5,none⟩=some c5∧W.cell? ⟨w.heap.size,6,none⟩=some c6∧W.cell? ⟨w.heap.size,7,none⟩=some c7∧W.cell? ⟨w.heap.size,8,none⟩=some c8∧W.cell? ⟨w.heap.size,9,none⟩=some c9∧W.cell? ⟨w.heap.size,10,none⟩=some c10∧W.cell? ⟨w.heap.size,11,none⟩=some c11∧W.cell? ⟨w.heap.size,12,none⟩=some c12∧W.cell? ⟨w.heap.size,13,none⟩=some c13∧W.cell? ⟨w.heap.size,14,none⟩=some c14):=fun W hW=>by
 have hz:=hW.size;simp at hz;refine ⟨((Below.refl _ _).alloc (Nat.le_refl _) _).trans (hW.mono (by omega)),by omega,?_,?_,?_,?_,?_,?_,?_,?_,?_,?_,?_,?_,?_,?_,?_⟩;all_goals exact (hW.cell (p:=⟨w.heap.size,_,none⟩) (by simp)).trans (by simp [go_sem])
theorem iL {B:Nat} {w W:World} (h:Below B w W) (hB:B≤w.heap.size) (o:Obj):Below B w (W.alloc o):=h.alloc (Nat.le_trans hB h.size) o
theorem EJ {B:Nat} {w W W':World} (h:Below B w W) (hB:B≤w.heap.size) (h2:Below W.heap.size W W'):Below B w W':=h.trans (h2.mono (Nat.le_trans hB h.size))
theorem wW {a p:Int} (h0:0≤a) (h1:a≤36000000) (h2:0≤p) (h3:p≤1000):0≤a*p∧a*p≤1000*a∧a*p≤36000000000:=by
 have e1:=Int.mul_nonneg h0 h2;have e2:=Int.mul_le_mul_of_nonneg_left h3 h0;omega
theorem sW {B:Nat} {w:World} {ro:Option Addr} {bD:Nat} {aJ:List (Int×Int)} (h:Av B w (.slice ro aJ.length bD) aJ) (k:Nat) (hk:k<aJ.length):∃b off,ro=some ⟨b,off,none⟩∧b<B∧∀W,Below B w W→W.cell? ⟨b,off+k*2,none⟩=some (.int .i64 aJ[k].1)∧W.cell? ⟨b,off+k*2+1,none⟩=some (.int .i64 aJ[k].2):=by
 obtain ⟨ao,cap,e,h1,h2,h3⟩:=h;injection e with e1 e2 e3;subst e1;obtain ⟨b,off,h4,h5,h6⟩:=h3 (by omega);have hg:=jm (fun k:Int×Int=>Value.int .i64 k.1) (fun k=>.int .i64 k.2) aJ k hk;exact ⟨b,off,h4,h5,fun W hb=>⟨(hb.cell (p:=⟨b,off+k*2,none⟩) h5).trans (h6 _ _ hg.1),(hb.cell (p:=⟨b,off+k*2+1,none⟩) h5).trans (h6 (k*2+1) _ hg.2)⟩⟩
def yH (B:Nat) (w:World) (v:Value) (n:Nat) (xs:List Value):Prop:=
 ∃ao cap,v=.slice ao n cap∧(0<n→∃b off,ao=some ⟨b,off,none⟩∧b<B∧∀j u,xs[j]?=some u→w.cell? ⟨b,off+j,none⟩=some u)
theorem yH.of_cells {B:Nat} {w:World} {v:Value} {n:Nat} {xs:List Value} (h:aW B w v n xs):yH B w v n xs:=by
 obtain ⟨ao,cap,h1,_,_,h2⟩:=h;exact ⟨ao,cap,h1,h2⟩
theorem yH.below {B:Nat} {w w':World} {v:Value} {n:Nat} {xs:List Value} (h:yH B w v n xs) (hb:Below B w w'):yH B w' v n xs:=by
 obtain ⟨ao,cap,rfl,h3⟩:=h;refine ⟨ao,cap,rfl,fun hl=>?_⟩;obtain ⟨b,off,rfl,h4,h5⟩:=h3 hl;exact ⟨b,off,rfl,h4,fun j u hu=>(hb.cell (p:=⟨b,off+j,none⟩) h4).trans (h5 j u hu)⟩
def CloneO (T:TypeId) (m:Nat) (w:World) (n:Nat) (xs:List Value) (e:Ending) (w':World):Prop:=
 ∃v',e=.returned v'∧w'.ownsRow w.heap.size T m v' n xs∧Below w.heap.size w w'
theorem E9 {B n:Nat} {w:World} {v:Value} {xs:List Value} (h:yH B w v n xs) (hn:0<n):∃b off cap,v=.slice (some ⟨b,off,none⟩) n cap∧b<B∧∀W,Below B w W→∀j u,xs[j]?=some u→W.cell? ⟨b,off+j,none⟩=some u:=by
 obtain ⟨ao,cap,rfl,h3⟩:=h;obtain ⟨b,off,rfl,h4,h5⟩:=h3 hn;exact ⟨b,off,cap,rfl,h4,fun W hb j u hu=>(hb.cell (p:=⟨b,off+j,none⟩) h4).trans (h5 j u hu)⟩
theorem Af (l:List (Int×ByteArray)) (i:Nat) (h:i<l.length):(nE l)[i*2]?=some (.int .i64 l[i].1)∧(nE l)[i*2+1]?=some (.string l[i].2):=jm _ _ l i h
theorem Ja (ao:Option Addr) (cap:Nat) (l:List (Int×ByteArray)) (m:Int) (s:ByteArray) (w:World) (hx:yH w.heap.size w (.slice ao l.length cap) l.length (nE l)) (hl:l.length≤1000) :
  Calls Tryz.prog 91 #[.slice ao l.length cap,.agg #[.int .i64 m,.string s]] w fun e w'=>(∃n:Int,e=.returned (.int .i64 n)∧(0≤n↔(m,s)∈l))∧Below w.heap.size w w':=by
 have HG:=ah (fun (h:0<l.length)=>E9 hx h);clear hx;go_enter Tryz.func91,Tryz.ntmps91;go_wp2_with fail;go_loopw [8] (fun i wr=>∃k:Nat,k≤l.length∧i=.int .i64 k∧Hid ((m,s)∉l.take k)∧Hid (Below (w.heap.size+1) (w.alloc (.cells #[.int .i64 m,.string s] 40)) wr)) (fun i _=>l.length-(intOf i).toNat)
 case atStart=>exact ⟨0,Nat.zero_le _,rfl,ah (by simp),ah (Below.refl _ _)⟩
 case round=>
  obtain ⟨k,hk,rfl,HN,HB⟩:=hrel;have hz:=HB.out.size;simp at hz;have HW:=ah (show Below w.heap.size w wr from ((Below.refl _ _).alloc (Nat.le_refl _) _).trans (HB.out.mono (by omega)));have b0:wr.cell? ⟨w.heap.size,0,none⟩=some (.int .i64 m):=(HB.out.cell (p:=⟨w.heap.size,0,none⟩) (by simp)).trans (by simp [go_sem]);have b1:wr.cell? ⟨w.heap.size,1,none⟩=some (.string s):=(HB.out.cell (p:=⟨w.heap.size,1,none⟩) (by simp)).trans (by simp [go_sem]);by_cases hlt:k<l.length
  ·obtain ⟨b,off,cap',e0,hbb,hc⟩:=HG.out (by omega);injection e0 with e1 e2 e3;subst e1 e3;obtain ⟨g1,g2⟩:=Af l k hlt;have d0:=hc wr HW.out _ _ g1;have d1:=hc wr HW.out (k*2+1) _ g2;rw [←Nat.add_assoc] at d1;have hbr:=Nat.lt_of_lt_of_le hbb HW.out.size;have um:Hid (l.take (k+1)=l.take k++[l[k]]):=ah (List.take_succ_eq_append_getElem hlt);have HMEM:=ah (List.getElem_mem hlt);clear hc g1 g2;generalize l[k]=y at *;obtain ⟨y1,y2⟩:=y;simp only at d0 d1;by_cases he:m=y1∧s=y2
   ·obtain ⟨e1,e2⟩:=he;subst e1;subst e2;have HMM:=ah (show (m,s)∈l from HMEM.out);clear HMEM um;go_wp2_with fail;go_quiet (fail)
    go_wp2_with fail;go_ret;exact ⟨⟨_,rfl,⟨fun _=>HMM.out,fun _=>by omega⟩⟩,dz HW.out _⟩
   ·have vT:Hid ((m,s)∉l.take (k+1)):=ah (by
     rw [um.out];intro h;rcases List.mem_append.1 h with h | h
     ·exact HN.out h
     ·simp at h;exact he h)
    by_cases h1:m=y1
    ·have h2:¬s.toList=y2.toList:=fun h=>he ⟨h1,ByteArray.ext (Array.toList_inj.1 (by rw [←Lib.toList_data,←Lib.toList_data];exact h))⟩;have h3:(s.toList==y2.toList)=false:=beq_eq_false_iff_ne.2 h2;subst h1;clear he;go_wp2_with fail;go_quiet (fail)
     go_wp2_with fail;go_roundw
     case rel=>exact ⟨k+1,by omega,by go_num,vT,ah (dz HB.out _)⟩
     case measure=>simp [intOf];omega
    ·clear he;go_wp2_with fail;go_quiet (fail)
     go_wp2_with fail;go_roundw
     case rel=>exact ⟨k+1,by omega,by go_num,vT,ah (dz HB.out _)⟩
     case measure=>simp [intOf];omega
  ·have HF:Hid ((m,s)∉l):=ah (by have:=HN.out;rwa [List.take_of_length_le (by omega)] at this);go_wp2_with fail;go_ret;exact ⟨⟨_,rfl,⟨fun h=>by omega,fun h=>absurd h HF.out⟩⟩,HW.out⟩
theorem Ba (ao:Option Addr) (cap:Nat) (l:List (Int×ByteArray)) (m:Int) (s:ByteArray) (w:World) (hx:yH w.heap.size w (.slice ao l.length cap) l.length (nE l)) (hl:l.length≤1000) :
  Calls Tryz.prog 60 #[.slice ao l.length cap,.agg #[.int .i64 m,.string s]] w fun e w'=>(∃b:Bool,e=.returned (.bool b)∧(b=true↔(m,s)∈l))∧Below w.heap.size w w':=by
 have CI:=ah (fun W (hb:Below w.heap.size w W)=>Ja ao cap l m s W (by obtain ⟨a,b,c,d⟩:=hx.below hb;exact ⟨a,b,c,fun h=>by obtain ⟨e,f,g,h,i⟩:=d h;exact ⟨e,f,g,Nat.lt_of_lt_of_le h hb.size,i⟩⟩) hl);clear hx;go_enter Tryz.func60,Tryz.ntmps60;go_wp2_with fail;refine (CI.out _ ((Below.refl _ _).alloc (Nat.le_refl _) _)).mono ?_;rintro e w1 ⟨⟨n,rfl,hn⟩,hb1⟩;have HB:=ah (show Below w.heap.size w w1 from ((Below.refl _ _).alloc (Nat.le_refl _) _).trans (hb1.mono (by simp)));have HN:=ah hn;clear hb1 hn;go_wp2_with fail;go_ret;exact ⟨⟨_,rfl,by simpa using HN.out⟩,HB.out⟩
end Go.Proofs.YtopmdeefcjdadaaGreat
