import Derived.Test.YtopmdeefcjdadaaGreatT42M00
import Derived.Test.YtopmdeefcjdadaaGreatT42M23
set_option linter.unusedVariables false
set_option linter.unusedSimpArgs false
set_option maxRecDepth 100000
set_option maxHeartbeats 32000000
namespace Go.Proofs.YtopmdeefcjdadaaGreat
open Go.RowKit
theorem zR (B na nb da db:Nat) (s t:Bool) (x y z u:Value) (w:World) (hB:B≤w.heap.size) (h1:Fit na) (h2:Fit da) (h3:Fit nb) (h4:Fit db) (h5:Fit (na*db+nb*da)) (h6:Fit (da*db)) (h7:0<da*db)
  (hx:gP B w x na) (hy:gP B w y da) (hz:gP B w z nb) (hu:gP B w u db):Calls Tryz.prog 50 #[.agg #[.bool s,x,y],.agg #[.bool t,z,u]] w (Es (sg s na*(db:Int)+sg t nb*(da:Int)) (da*db) w):=by
 have HX:=ah hx;have HY:=ah hy;have HZ:=ah hz;have HU:=ah hu;have FA:=ah (h1);have FC:=ah (h2);have FB:=ah (h3);have FD:=ah (h4);have FP:=ah (Fit.le h5 (Nat.le_add_right _ _));have FQ:=ah (Fit.le h5 (Nat.le_add_left _ _));rw [zo,zo];have HF6:=ah h6;have R3:=ah h7;have FPS:=ah h5;obtain ⟨ao,La,ac,rfl,_⟩:=bC hx;obtain ⟨co,Lc,cc,rfl,_⟩:=bC hy;obtain ⟨bo,Lb,bc,rfl,_⟩:=bC hz;obtain ⟨dd,Ld,dc,rfl,_⟩:=bC hu;clear hx hy hz hu h1 h2 h3 h4 h5 h6 h7
 have KP:=ah (show ∀W,Below (w.heap.size+1+1) (W3 w s t (.slice ao La ac) (.slice co Lc cc) (.slice bo Lb bc) (.slice dd Ld dc)) W→(Below (w.heap.size+1+1) (W3 w s t (.slice ao La ac) (.slice co Lc cc) (.slice bo Lb bc) (.slice dd Ld dc)) W∧W.cell? ⟨w.heap.size,0,none⟩=some (.bool s)∧W.cell? ⟨w.heap.size,1,none⟩=some (.slice ao La ac)∧W.cell? ⟨w.heap.size,2,none⟩=some (.slice co Lc cc)∧W.cell? ⟨w.heap.size+1,0,none⟩=some (.bool t)∧W.cell? ⟨w.heap.size+1,1,none⟩=some (.slice bo Lb bc)∧W.cell? ⟨w.heap.size+1,2,none⟩=some (.slice dd Ld dc)) from fun W hW=>by
  have a:=(W3_a w s t (.slice ao La ac) (.slice co Lc cc) (.slice bo Lb bc) (.slice dd Ld dc)).below hW (by omega);have b:=(W3_b w s t (.slice ao La ac) (.slice co Lc cc) (.slice bo Lb bc) (.slice dd Ld dc)).below hW (by omega);exact ⟨hW,a.c0,a.c1,a.c2,b.c0,b.c1,b.c2⟩)
 have KR:=ah (show ∀W,Below (w.heap.size+1+1+1) (W3 w s t (.slice ao La ac) (.slice co Lc cc) (.slice bo Lb bc) (.slice dd Ld dc)) W→oJ W (w.heap.size+1+1) (.bool false) (.slice none 0 0) (.slice none 0 0) from fun W hW=>
  (W3_r w s t (.slice ao La ac) (.slice co Lc cc) (.slice bo Lb bc) (.slice dd Ld dc)).below hW (by omega))
 have KB:=ah (show ∀W,Below (w.heap.size+1+1+1) (W3 w s t (.slice ao La ac) (.slice co Lc cc) (.slice bo Lb bc) (.slice dd Ld dc)) W→Below w.heap.size w W∧(w.heap.size+1+1+1)≤W.heap.size from fun W hW=>by
  have:=hW.size;rw [yS] at this;exact ⟨(vR w s t _ _ _ _).trans (hW.mono (by omega)),this⟩)
 have T1:=ah (show ∀W,Below (w.heap.size+1+1+1) (W3 w s t (.slice ao La ac) (.slice co Lc cc) (.slice bo Lb bc) (.slice dd Ld dc)) W→Calls Tryz.prog 78 #[.slice ao La ac,.slice dd Ld dc] W (fun e W1=>GN (w.heap.size+1+1) (na*db) W e W1∧Below (w.heap.size+1+1+1) (W3 w s t (.slice ao La ac) (.slice co Lc cc) (.slice bo Lb bc) (.slice dd Ld dc)) W1) from fun W hS=>by
  obtain ⟨hb,hs⟩:=KB.out W hS;refine (jQ B _ _ _ _ W (by omega) FA.out FD.out (HX.out.below (hb.mono hB)) (HU.out.below (hb.mono hB))).mono ?_;intro e W1 hN;have hT:=qx (g:=w.heap.size+1+1) hN (by omega);obtain ⟨_,_,_,_,_,h4⟩:=id hN;exact ⟨hT,hS.trans (h4.mono hs)⟩)
 have T2:=ah (show ∀W,Below (w.heap.size+1+1+1) (W3 w s t (.slice ao La ac) (.slice co Lc cc) (.slice bo Lb bc) (.slice dd Ld dc)) W→Calls Tryz.prog 78 #[.slice bo Lb bc,.slice co Lc cc] W (fun e W1=>GN (w.heap.size+1+1) (nb*da) W e W1∧Below (w.heap.size+1+1+1) (W3 w s t (.slice ao La ac) (.slice co Lc cc) (.slice bo Lb bc) (.slice dd Ld dc)) W1) from fun W hS=>by
  obtain ⟨hb,hs⟩:=KB.out W hS;refine (jQ B _ _ _ _ W (by omega) FB.out FC.out (HZ.out.below (hb.mono hB)) (HY.out.below (hb.mono hB))).mono ?_;intro e W1 hN;have hT:=qx (g:=w.heap.size+1+1) hN (by omega);obtain ⟨_,_,_,_,_,h4⟩:=id hN;exact ⟨hT,hS.trans (h4.mono hs)⟩)
 have T3:=ah (show ∀W,Below (w.heap.size+1+1+1) (W3 w s t (.slice ao La ac) (.slice co Lc cc) (.slice bo Lb bc) (.slice dd Ld dc)) W→Calls Tryz.prog 78 #[.slice co Lc cc,.slice dd Ld dc] W (fun e W1=>GN (w.heap.size+1+1) (da*db) W e W1∧Below (w.heap.size+1+1+1) (W3 w s t (.slice ao La ac) (.slice co Lc cc) (.slice bo Lb bc) (.slice dd Ld dc)) W1) from fun W hS=>by
  obtain ⟨hb,hs⟩:=KB.out W hS;refine (jQ B _ _ _ _ W (by omega) FC.out FD.out (HY.out.below (hb.mono hB)) (HU.out.below (hb.mono hB))).mono ?_;intro e W1 hN;have hT:=qx (g:=w.heap.size+1+1) hN (by omega);obtain ⟨_,_,_,_,_,h4⟩:=id hN;exact ⟨hT,hS.trans (h4.mono hs)⟩)
 clear HX HY HZ HU FA FB FC FD;go_enter Tryz.func50,Tryz.ntmps50;go_wp2_with fail;have hw0:Below (w.heap.size+1+1+1) (W3 w s t (.slice ao La ac) (.slice co Lc cc) (.slice bo Lb bc) (.slice dd Ld dc)) (World.drew (((w.alloc (.cells #[.bool s,.slice ao La ac,.slice co Lc cc] 99)).alloc (.cells #[.bool t,.slice bo Lb bc,.slice dd Ld dc] 99)).alloc (.cells #[.bool false,.slice none 0 0,.slice none 0 0] 99))):=(Below.refl _ _).drew
 go_region_held3 (fun W=>Below (w.heap.size+1+1) (W3 w s t (.slice ao La ac) (.slice co Lc cc) (.slice bo Lb bc) (.slice dd Ld dc)) W∧W.cell? ⟨w.heap.size,0,none⟩=some (.bool s)∧W.cell? ⟨w.heap.size,1,none⟩=some (.slice ao La ac)∧W.cell? ⟨w.heap.size,2,none⟩=some (.slice co Lc cc)∧W.cell? ⟨w.heap.size+1,0,none⟩=some (.bool t)∧W.cell? ⟨w.heap.size+1,1,none⟩=some (.slice bo Lb bc)∧W.cell? ⟨w.heap.size+1,2,none⟩=some (.slice dd Ld dc))
  (first | exact KP.out _ (by assumption) | exact KP.out _ ((Below.refl _ _).drew))
  (first
   | (go_at_call 78;((with_reducible refine (T1.out _ (by assumption)).mono ?_);rintro e W1 ⟨⟨ao1,L1,cap1,rfl,hn1,ho1,hb1⟩,hw1⟩;have Hw:=ah hn1;have mO:=ah ho1;have HB1:=ah hb1;have hv1:=hw1.mono (Nat.le_succ (w.heap.size+1+1));clear hn1 ho1 hb1))
   | (go_at_call 78;((with_reducible refine (T2.out _ (by assumption)).mono ?_);rintro e W2 ⟨⟨Ry,L2,cap2,rfl,hn2,ho2,hb2⟩,hw2⟩;have uU:=ah hn2;have nT:=ah ho2;have HB2:=ah hb2;have hv2:=hw2.mono (Nat.le_succ (w.heap.size+1+1));clear hn2 ho2 hb2))
   | fail)
 all_goals
  (first
   | (have HP:=ah (jg Hw.out HB2.out);have HQ:=uU;have hwc:=hw2;clear hw0 hw1 hw2 hv1 hv2 Hw uU HB1 HB2)
   | (have HQ:=ah (jg uU.out HB1.out);have HP:=Hw;have hwc:=hw1;clear hw0 hw1 hw2 hv1 hv2 Hw uU HB1 HB2)
   | fail)
  obtain ⟨hvc,a0,a1,a2,b0,b1,b2⟩:=KP.out _ (hwc.mono (Nat.le_succ (w.heap.size+1+1)));go_wp2_with fail;refine (T3.out _ hwc).mono ?_;rintro e W4 ⟨⟨Ej,L3,nI,rfl,xB,ho3,hb3⟩,hw4⟩;have HD4:=ah xB;have Ew:=ah ho3;have HP4:=ah (jg HP.out hb3);have HQ4:=ah (jg HQ.out hb3);clear xB ho3 hb3 HP HQ hwc hvc a0 a1 a2 b0 b1 b2;obtain ⟨hv4,a0,a1,a2,b0,b1,b2⟩:=KP.out _ (hw4.mono (Nat.le_succ (w.heap.size+1+1)));have RL:=ah hw4;have RU:=HP4;have RS:=HQ4;have HDW4:=HD4;clear HP4 HQ4 HD4;by_cases hst:s=t
  ·subst hst;have JY:=ah (show Fit (na*db+nb*da) from Fit.le FPS.out (by omega));go_wp2_with fail;have hwd:Below (w.heap.size+1+1+1) (W3 w s s (.slice ao La ac) (.slice co Lc cc) (.slice bo Lb bc) (.slice dd Ld dc)) (World.drew W4):=RL.out.drew;have HPd:=ah (show gP (World.drew W4).heap.size (World.drew W4) _ _ from RU.out);have HQd:=ah (show gP (World.drew W4).heap.size (World.drew W4) _ _ from RS.out);have HDd:=ah (show gP (World.drew W4).heap.size (World.drew W4) _ _ from HDW4.out)
   go_region_held3 (fun W=>Below (w.heap.size+1+1) (W3 w s s (.slice ao La ac) (.slice co Lc cc) (.slice bo Lb bc) (.slice dd Ld dc)) W∧W.cell? ⟨w.heap.size,0,none⟩=some (.bool s)∧W.cell? ⟨w.heap.size,1,none⟩=some (.slice ao La ac)∧W.cell? ⟨w.heap.size,2,none⟩=some (.slice co Lc cc)∧W.cell? ⟨w.heap.size+1,0,none⟩=some (.bool s)∧W.cell? ⟨w.heap.size+1,1,none⟩=some (.slice bo Lb bc)∧W.cell? ⟨w.heap.size+1,2,none⟩=some (.slice dd Ld dc))
    (first | exact KP.out _ (by assumption) | exact KP.out _ (hwd.mono (Nat.le_succ (w.heap.size+1+1))) | exact KP.out _ (bN hv6 (Nat.le_refl _)))
    (first
     | (go_at_call 79;refine (ME _ _ _ _ _ _ (Nat.le_refl _) FP.out FQ.out HPd.out HQd.out).mono ?_;rintro e W5 ⟨v5,L5,rfl,hl5,DZ,hb5⟩;have HN5:=ah (iV DZ hl5);have HO5:=ah (lK (g:=w.heap.size+1+1) DZ (KB.out _ hwd).2);have HD5:=ah (jg HDd.out hb5);have Qo:=hwd.trans (hb5.mono (KB.out _ hwd).2);have hv5:=Qo.mono (Nat.le_succ (w.heap.size+1+1));obtain ⟨ao5,cap5,rfl⟩:=bK DZ;clear DZ hl5 hb5)
     | (go_at_call 80;refine (iG _ _ _ _ _ _ JY.out HF6.out R3.out HN5.out HD5.out).mono ?_;rintro e W6 ⟨s6,x6,y6,n6,d6,rfl,Je,hd6,k1,k2,k3,k4,hb6⟩;obtain ⟨ao6,L6,cap6,rfl,-⟩:=bC Je;obtain ⟨bo6,M6,Rs,rfl,-⟩:=bC hd6;have HN6:=ah Je;have HD6:=ah hd6;have HK:=ah (And.intro k1 (And.intro k2 (And.intro k3 k4)));clear Je hd6 k1 k2 k3 k4;have Cn:=Qo.trans (hb6.mono (KB.out _ Qo).2);have hv6:=Cn.mono (Nat.le_succ (w.heap.size+1+1));obtain ⟨r0,r1,r2,r3,r4,r5⟩:=KR.out _ Cn;clear hb6)
     | fail)
   all_goals
    have HW6:=ah (KB.out _ Cn);have Bw:=ah (KR.out _ Cn);go_wp2
    rw [sg_add];refine bodyPost_ret (v:=.agg #[.bool s6,.slice ao6 L6 cap6,.slice bo6 M6 Rs]) (by simp [results,Tryz.results50,go_sem,r0,r1,r2]) rfl ⟨_,_,_,rfl,?_,HK.out.1,by rw [fu,fu];exact HK.out.2.1,HK.out.2.2.1,HK.out.2.2.2,bN HW6.out.1 (by omega)⟩;rw [dW];exact qC (HN6.out.dS Bw.out) (HD6.out.dS Bw.out)
  ·obtain rfl:t=!s:=by cases s<;>cases t<;>simp_all
   clear hst;go_wp2_with fail;by_cases hge:nb*da≤na*db
   ·have JY:=ah (show Fit (na*db-nb*da) from Fit.le FPS.out (by omega));have EG:=ah hge;obtain ⟨o,ho⟩:∃o,wV (na*db) (nb*da)=o:=⟨_,rfl⟩;have ho0:0≤o:=by rw [←ho];exact DL hge
    refine (vw _ _ _ o _ _ _ (Nat.le_refl _) ho RU.out RS.out).mono ?_;rintro e W7 ⟨rfl,xD⟩;have RJ:=ah (RL.out.trans (xD.mono (KB.out _ RL.out).2));have HPW7:=ah (jg RU.out xD);have HQW7:=ah (jg RS.out xD);have HDW7:=ah (jg HDW4.out xD);clear hge ho xD hv4 a0 a1 a2 b0 b1 b2 hw4;obtain ⟨hv7,a0,a1,a2,b0,b1,b2⟩:=KP.out _ (RJ.out.mono (Nat.le_succ (w.heap.size+1+1)));go_wp2_with fail;have hwd:Below (w.heap.size+1+1+1) (W3 w s (!s) (.slice ao La ac) (.slice co Lc cc) (.slice bo Lb bc) (.slice dd Ld dc)) (World.drew W7):=RJ.out.drew;have HPd:=ah (show gP (World.drew W7).heap.size (World.drew W7) _ _ from HPW7.out);have HQd:=ah (show gP (World.drew W7).heap.size (World.drew W7) _ _ from HQW7.out);have HDd:=ah (show gP (World.drew W7).heap.size (World.drew W7) _ _ from HDW7.out)
    go_region_held3 (fun W=>Below (w.heap.size+1+1) (W3 w s (!s) (.slice ao La ac) (.slice co Lc cc) (.slice bo Lb bc) (.slice dd Ld dc)) W∧W.cell? ⟨w.heap.size,0,none⟩=some (.bool s)∧W.cell? ⟨w.heap.size,1,none⟩=some (.slice ao La ac)∧W.cell? ⟨w.heap.size,2,none⟩=some (.slice co Lc cc)∧W.cell? ⟨w.heap.size+1,0,none⟩=some (.bool (!s))∧W.cell? ⟨w.heap.size+1,1,none⟩=some (.slice bo Lb bc)∧W.cell? ⟨w.heap.size+1,2,none⟩=some (.slice dd Ld dc))
     (first | exact KP.out _ (by assumption) | exact KP.out _ (hwd.mono (Nat.le_succ (w.heap.size+1+1))) | exact KP.out _ (bN hv6 (Nat.le_refl _)))
     (first
      | (go_at_call 82;refine (Ch _ _ _ _ _ _ (Nat.le_refl _) FP.out EG.out HPd.out HQd.out).mono ?_;rintro e W5 ⟨v5,L5,rfl,hl5,DZ,hb5⟩;have HN5:=ah (iV DZ hl5);have HO5:=ah (lK (g:=w.heap.size+1+1) DZ (KB.out _ hwd).2);have HD5:=ah (jg HDd.out hb5);have Qo:=hwd.trans (hb5.mono (KB.out _ hwd).2);have hv5:=Qo.mono (Nat.le_succ (w.heap.size+1+1));obtain ⟨ao5,cap5,rfl⟩:=bK DZ;clear DZ hl5 hb5)
      | (go_at_call 80;refine (iG _ _ _ _ _ _ JY.out HF6.out R3.out HN5.out HD5.out).mono ?_;rintro e W6 ⟨s6,x6,y6,n6,d6,rfl,Je,hd6,k1,k2,k3,k4,hb6⟩;obtain ⟨ao6,L6,cap6,rfl,-⟩:=bC Je;obtain ⟨bo6,M6,Rs,rfl,-⟩:=bC hd6;have HN6:=ah Je;have HD6:=ah hd6;have HK:=ah (And.intro k1 (And.intro k2 (And.intro k3 k4)));clear Je hd6 k1 k2 k3 k4;have Cn:=Qo.trans (hb6.mono (KB.out _ Qo).2);have hv6:=Cn.mono (Nat.le_succ (w.heap.size+1+1));obtain ⟨r0,r1,r2,r3,r4,r5⟩:=KR.out _ Cn;clear hb6)
      | fail)
    all_goals
     have HW6:=ah (KB.out _ Cn);have Bw:=ah (KR.out _ Cn);go_wp2
     rw [sg_sub s EG.out];refine bodyPost_ret (v:=.agg #[.bool s6,.slice ao6 L6 cap6,.slice bo6 M6 Rs]) (by simp [results,Tryz.results50,go_sem,r0,r1,r2]) rfl ⟨_,_,_,rfl,?_,HK.out.1,by rw [fu,fu];exact HK.out.2.1,HK.out.2.2.1,HK.out.2.2.2,bN HW6.out.1 (by omega)⟩;rw [dW];exact qC (HN6.out.dS Bw.out) (HD6.out.dS Bw.out)
   ·have hlt:na*db<nb*da:=by omega
    have JY:=ah (show Fit (nb*da-na*db) from Fit.le FPS.out (by omega));have EG:=ah (Nat.le_of_lt hlt);refine (vw _ _ _ (-1) _ _ _ (Nat.le_refl _) (tq hlt) RU.out RS.out).mono ?_;rintro e W7 ⟨rfl,xD⟩;have RJ:=ah (RL.out.trans (xD.mono (KB.out _ RL.out).2));have HPW7:=ah (jg RU.out xD);have HQW7:=ah (jg RS.out xD);have HDW7:=ah (jg HDW4.out xD);clear hge hlt xD hv4 a0 a1 a2 b0 b1 b2 hw4;obtain ⟨hv7,a0,a1,a2,b0,b1,b2⟩:=KP.out _ (RJ.out.mono (Nat.le_succ (w.heap.size+1+1)));go_wp2_with fail;have hwd:Below (w.heap.size+1+1+1) (W3 w s (!s) (.slice ao La ac) (.slice co Lc cc) (.slice bo Lb bc) (.slice dd Ld dc)) (World.drew W7):=RJ.out.drew;have HPd:=ah (show gP (World.drew W7).heap.size (World.drew W7) _ _ from HPW7.out);have HQd:=ah (show gP (World.drew W7).heap.size (World.drew W7) _ _ from HQW7.out);have HDd:=ah (show gP (World.drew W7).heap.size (World.drew W7) _ _ from HDW7.out)
    go_region_held3 (fun W=>Below (w.heap.size+1+1) (W3 w s (!s) (.slice ao La ac) (.slice co Lc cc) (.slice bo Lb bc) (.slice dd Ld dc)) W∧W.cell? ⟨w.heap.size,0,none⟩=some (.bool s)∧W.cell? ⟨w.heap.size,1,none⟩=some (.slice ao La ac)∧W.cell? ⟨w.heap.size,2,none⟩=some (.slice co Lc cc)∧W.cell? ⟨w.heap.size+1,0,none⟩=some (.bool (!s))∧W.cell? ⟨w.heap.size+1,1,none⟩=some (.slice bo Lb bc)∧W.cell? ⟨w.heap.size+1,2,none⟩=some (.slice dd Ld dc))
     (first | exact KP.out _ (by assumption) | exact KP.out _ (hwd.mono (Nat.le_succ (w.heap.size+1+1))) | exact KP.out _ (bN hv6 (Nat.le_refl _)))
     (first
      | (go_at_call 82;refine (Ch _ _ _ _ _ _ (Nat.le_refl _) FQ.out EG.out HQd.out HPd.out).mono ?_;rintro e W5 ⟨v5,L5,rfl,hl5,DZ,hb5⟩;have HN5:=ah (iV DZ hl5);have HO5:=ah (lK (g:=w.heap.size+1+1) DZ (KB.out _ hwd).2);have HD5:=ah (jg HDd.out hb5);have Qo:=hwd.trans (hb5.mono (KB.out _ hwd).2);have hv5:=Qo.mono (Nat.le_succ (w.heap.size+1+1));obtain ⟨ao5,cap5,rfl⟩:=bK DZ;clear DZ hl5 hb5)
      | (go_at_call 80;refine (iG _ _ _ _ _ _ JY.out HF6.out R3.out HN5.out HD5.out).mono ?_;rintro e W6 ⟨s6,x6,y6,n6,d6,rfl,Je,hd6,k1,k2,k3,k4,hb6⟩;obtain ⟨ao6,L6,cap6,rfl,-⟩:=bC Je;obtain ⟨bo6,M6,Rs,rfl,-⟩:=bC hd6;have HN6:=ah Je;have HD6:=ah hd6;have HK:=ah (And.intro k1 (And.intro k2 (And.intro k3 k4)));clear Je hd6 k1 k2 k3 k4;have Cn:=Qo.trans (hb6.mono (KB.out _ Qo).2);have hv6:=Cn.mono (Nat.le_succ (w.heap.size+1+1));obtain ⟨r0,r1,r2,r3,r4,r5⟩:=KR.out _ Cn;clear hb6)
      | fail)
    all_goals
     have HW6:=ah (KB.out _ Cn);have Bw:=ah (KR.out _ Cn);go_wp2
     rw [sg_sub' s EG.out];refine bodyPost_ret (v:=.agg #[.bool s6,.slice ao6 L6 cap6,.slice bo6 M6 Rs]) (by simp [results,Tryz.results50,go_sem,r0,r1,r2]) rfl ⟨_,_,_,rfl,?_,HK.out.1,by rw [fu,fu];exact HK.out.2.1,HK.out.2.2.1,HK.out.2.2.2,bN HW6.out.1 (by omega)⟩;rw [dW];exact qC (HN6.out.dS Bw.out) (HD6.out.dS Bw.out)
def zB (p:Int):Bool:=decide (p=0)
theorem H6 {p:Int} (h:p=0):zB p=true:=decide_eq_true h
theorem Ox {p:Int} (h:p≠0):zB p=false:=decide_eq_false h
theorem zeroQ (B d:Nat) (p:Int) (v:Value) (w:World) (h:sM B w v p d):Calls Tryz.prog 85 #[v] w fun e w'=>e=.returned (.bool (zB p))∧Below w.heap.size w w':=by
 obtain ⟨s,x,y,rfl,n,h1,h2,rfl⟩:=h;obtain ⟨ao,L,cap,rfl,hl⟩:=bC h1;obtain ⟨bo,M,cap2,rfl,hm⟩:=bC h2;have hz:=eu hl;clear h1 h2 hl hm;by_cases h0:L=0
 ·have hn:=hz.2 h0;subst h0 hn;have HE:=ah (H6 (p:=sg s 0) (by cases s<;>rfl));rw [HE.out];clear hz;go_enter Tryz.func85,Tryz.ntmps85;go_wp2
  go_ret;exact ⟨rfl,by go_grown⟩
 ·have HE:=ah (Ox (p:=sg s n) (by have:n≠0:=fun h=>h0 (hz.1 h);cases s<;>simp only [sg]<;>omega));rw [HE.out];have hd:((L:Int)==0)=false:=by simp;omega
  clear hz;go_enter Tryz.func85,Tryz.ntmps85;go_wp2
  go_ret;exact ⟨by simp [h0],by go_grown⟩
def qp (p:Int):Int:=if p=0 then 0 else if p<0 then -1 else 1
theorem lu {B d:Nat} {p:Int} {w:World} {v:Value} (h:sM B w v p d):∃s ao L cap bo M cap2,v=.agg #[.bool s,.slice ao L cap,.slice bo M cap2]:=by
 obtain ⟨s,x,y,rfl,n,h1,h2,h3⟩:=h;obtain ⟨ao,L,cap,rfl,_⟩:=bC h1;obtain ⟨bo,M,cap2,rfl,_⟩:=bC h2;exact ⟨_,_,_,_,_,_,_,rfl⟩
theorem Qe {B d:Nat} {p:Int} {w:World} {s:Bool} {x y:Value} (h:sM B w (.agg #[.bool s,x,y]) p d) (hp:p≠0):(s=true∧p<0)∨(s=false∧0<p):=by
 obtain ⟨s',x',y',e,n,h1,h2,h3⟩:=h;cases e;cases s
 ·right;simp only [sg] at h3;exact ⟨rfl,by omega⟩
 ·left;simp only [sg] at h3;exact ⟨rfl,by omega⟩
theorem Lj {w W:World} {o1 o2:Obj} (h:Below ((w.alloc o1).alloc o2).heap.size ((w.alloc o1).alloc o2) W):Below w.heap.size w W∧w.heap.size+1+1≤W.heap.size:=by
 have h1:=h.size;simp at h1;exact ⟨(((Below.refl _ _).alloc (Nat.le_refl _) o1).alloc (by simp) o2).trans (h.mono (by simp<;>omega)),by omega⟩
theorem MF {n d:Nat} (hd:0<d):(-(n:Int)) / (d:Int)=-((n / d:Nat):Int)-(if 0<n % d then 1 else 0):=by
 have h1:=Nat.div_add_mod n d;have h2:=Nat.mod_lt n hd
 have e:-(n:Int)=-((n % d:Nat):Int)+(d:Int)*(-((n / d:Nat):Int)):=by
  have:(n:Int)=(d:Int)*((n / d:Nat):Int)+((n % d:Nat):Int):=by exact_mod_cast h1.symm
  rw [Int.mul_neg];omega
 rw [e,Int.add_mul_ediv_left _ _ (by omega)];generalize n % d=r at *;by_cases h0:0<r
 ·rw [if_pos h0]
  have:(-(r:Int)) / (d:Int)=-1:=by
   rw [show -(r:Int)=((d:Int)-r)+(d:Int)*(-1) by omega,Int.add_mul_ediv_left _ _ (by omega),Int.ediv_eq_zero_of_lt (by omega) (by omega)];omega
  omega
 ·obtain rfl:r=0:=by omega
  rw [if_neg (by omega)];simp
def AY (p:Int) (d:Nat):Int:=(p*2+d) / ((d*2:Nat):Int)
theorem sM.dS {B d g:Nat} {p:Int} {w:World} {v u0 u1 u2:Value} {s:Bool} {ao bo:Option Addr} {i j k l:Nat} (h:sM B w v p d) (hb:oJ w g (.bool s) (.slice ao i j) (.slice bo k l)):sM B (((w.setCell ⟨g,0,none⟩ u0).setCell ⟨g,1,none⟩ u1).setCell ⟨g,2,none⟩ u2) v p d:=by
 obtain ⟨s,x,y,rfl,n,h1,h2,rfl⟩:=h;exact qC (h1.dS hb) (h2.dS hb)
theorem yQ {q P:Int} {g D:Nat} (hg:0<g) (hD:0<D) (he:q*(D:Int)=P*(g:Int)):q / (g:Int)=P / (D:Int):=by
 have h1:q*(D:Int) / ((g:Int)*(D:Int))=q / (g:Int):=Int.mul_ediv_mul_of_pos_left _ _ (by omega);have h2:P*(g:Int) / ((D:Int)*(g:Int))=P / (D:Int):=Int.mul_ediv_mul_of_pos_left _ _ (by omega);rw [←h1,←h2,he,Int.mul_comm (g:Int)]
theorem oC {q P:Int} {g D:Nat} (hg:0<g) (hD:0<D) (he:q*(D:Int)=P*(g:Int)):q.natAbs / g=P.natAbs / D:=by
 have h:q.natAbs*D=P.natAbs*g:=by
  have:=congrArg Int.natAbs he;rwa [Int.natAbs_mul,Int.natAbs_mul,Int.natAbs_natCast,Int.natAbs_natCast] at this
 have h1:q.natAbs*D / (g*D)=q.natAbs / g:=Nat.mul_div_mul_right _ _ hD;have h2:P.natAbs*g / (D*g)=P.natAbs / D:=Nat.mul_div_mul_right _ _ hg;rw [←h1,←h2,h,Nat.mul_comm g]
theorem rndQ_eq {q P:Int} {g D:Nat} (hg:0<g) (hD:0<D) (he:q*(D:Int)=P*(g:Int)):AY q g=AY P D:=by
 unfold AY;refine yQ (by omega) (by omega) ?_;push_cast;have:(q*2+(g:Int))*((D:Int)*2)=4*(q*(D:Int))+2*((g:Int)*(D:Int)):=by grind
 rw [this,he];grind
theorem plusR (B da db:Nat) (pa pb:Int) (v u:Value) (w:World) (hB:B≤w.heap.size) (h1:Fit pa.natAbs) (h2:Fit da) (h3:Fit pb.natAbs) (h4:Fit db) (h5:Fit (pa.natAbs*db+pb.natAbs*da)) (h6:Fit (da*db)) (h7:0<da*db) (hv:sM B w v pa da) (hu:sM B w u pb db) :
  Calls Tryz.prog 50 #[v,u] w (Es (pa*(db:Int)+pb*(da:Int)) (da*db) w):=by
 obtain ⟨s,x,y,rfl,na,k1,k2,rfl⟩:=hv;obtain ⟨t,z,u,rfl,nb,k3,k4,rfl⟩:=hu;rw [fu] at h1;rw [fu] at h3;rw [fu,fu] at h5;exact zR B na nb da db s t x y z u w hB h1 h2 h3 h4 h5 h6 h7 k1 k2 k3 k4
theorem timesR (B da db:Nat) (pa pb:Int) (v u:Value) (w:World) (hB:B≤w.heap.size) (h1:Fit pa.natAbs) (h2:Fit da) (h3:Fit pb.natAbs) (h4:Fit db) (h5:Fit (pa.natAbs*pb.natAbs)) (h6:Fit (da*db)) (h7:0<da*db) (hv:sM B w v pa da) (hu:sM B w u pb db) :
  Calls Tryz.prog 51 #[v,u] w (Es (pa*pb) (da*db) w):=by
 obtain ⟨s,x,y,rfl,na,k1,k2,rfl⟩:=hv;obtain ⟨t,z,u,rfl,nb,k3,k4,rfl⟩:=hu;rw [fu] at h1;rw [fu] at h3;rw [fu,fu] at h5;rw [←sg_mul];exact EN B na nb da db s t x y z u w hB h1 h2 h3 h4 h5 h6 h7 k1 k2 k3 k4
theorem PZ (B da db:Nat) (pa pb:Int) (v u:Value) (w:World) (hB:B≤w.heap.size) (h1:Fit pa.natAbs) (h2:Fit da) (h3:Fit pb.natAbs) (h4:Fit db) (h5:Fit (pa.natAbs*db+pb.natAbs*da)) (h6:Fit (da*db)) (h7:0<da*db) (hv:sM B w v pa da) (hu:sM B w u pb db) :
  Calls Tryz.prog 53 #[v,u] w (Es (pa*(db:Int)-pb*(da:Int)) (da*db) w):=by
 obtain ⟨s,x,y,rfl,na,hx,hy,rfl⟩:=hv;obtain ⟨t,z,u,rfl,nb,hz,hu,rfl⟩:=hu;have e:sg s na*(db:Int)-sg t nb*(da:Int)=sg s na*(db:Int)+sg (!t) nb*(da:Int):=by rw [sg_not,Int.neg_mul];omega
 rw [e];rw [fu] at h1;rw [fu] at h3;rw [fu,fu] at h5;have HX:=ah hx;have HY:=ah hy;have HZ:=ah hz;have HU:=ah hu;have SA:=ah (And.intro h1 (And.intro h2 (And.intro h3 h4)));have SB:=ah (And.intro h5 (And.intro h6 h7));obtain ⟨ao,La,ac,rfl,_⟩:=bC hx;obtain ⟨co,Lc,cc,rfl,_⟩:=bC hy;obtain ⟨bo,Lb,bc,rfl,_⟩:=bC hz;obtain ⟨dd,Ld,dc,rfl,_⟩:=bC hu;clear hx hy hz hu h1 h2 h3 h4 h5 h6 h7 e
 have KP:=ah (show ∀W,Below (w.heap.size+1+1) (W3 w s t (.slice ao La ac) (.slice co Lc cc) (.slice bo Lb bc) (.slice dd Ld dc)) W→(Below (w.heap.size+1+1) (W3 w s t (.slice ao La ac) (.slice co Lc cc) (.slice bo Lb bc) (.slice dd Ld dc)) W∧W.cell? ⟨w.heap.size,0,none⟩=some (.bool s)∧W.cell? ⟨w.heap.size,1,none⟩=some (.slice ao La ac)∧W.cell? ⟨w.heap.size,2,none⟩=some (.slice co Lc cc)∧W.cell? ⟨w.heap.size+1,0,none⟩=some (.bool t)∧W.cell? ⟨w.heap.size+1,1,none⟩=some (.slice bo Lb bc)∧W.cell? ⟨w.heap.size+1,2,none⟩=some (.slice dd Ld dc)) from fun W hW=>by
  have a:=(W3_a w s t (.slice ao La ac) (.slice co Lc cc) (.slice bo Lb bc) (.slice dd Ld dc)).below hW (by omega);have b:=(W3_b w s t (.slice ao La ac) (.slice co Lc cc) (.slice bo Lb bc) (.slice dd Ld dc)).below hW (by omega);exact ⟨hW,a.c0,a.c1,a.c2,b.c0,b.c1,b.c2⟩)
 have KR:=ah (show ∀W,Below (w.heap.size+1+1+1) (W3 w s t (.slice ao La ac) (.slice co Lc cc) (.slice bo Lb bc) (.slice dd Ld dc)) W→oJ W (w.heap.size+1+1) (.bool false) (.slice none 0 0) (.slice none 0 0) from fun W hW=>
  (W3_r w s t (.slice ao La ac) (.slice co Lc cc) (.slice bo Lb bc) (.slice dd Ld dc)).below hW (by omega))
 have KB:=ah (show ∀W,Below (w.heap.size+1+1+1) (W3 w s t (.slice ao La ac) (.slice co Lc cc) (.slice bo Lb bc) (.slice dd Ld dc)) W→Below w.heap.size w W∧(w.heap.size+1+1+1)≤W.heap.size from fun W hW=>by
  have:=hW.size;rw [yS] at this;exact ⟨(vR w s t _ _ _ _).trans (hW.mono (by omega)),this⟩)
 have T1:=ah (show ∀W,Below (w.heap.size+1+1+1) (W3 w s t (.slice ao La ac) (.slice co Lc cc) (.slice bo Lb bc) (.slice dd Ld dc)) W→Calls Tryz.prog 50 #[.agg #[.bool s,.slice ao La ac,.slice co Lc cc],.agg #[.bool (!t),.slice bo Lb bc,.slice dd Ld dc]] W (fun e W1=>Es (sg s na*(db:Int)+sg (!t) nb*(da:Int)) (da*db) W e W1) from fun W hS=>by
  obtain ⟨hb,hs⟩:=KB.out W hS;exact zR B na nb da db s (!t) _ _ _ _ W (by omega) SA.out.1 SA.out.2.1 SA.out.2.2.1 SA.out.2.2.2 SB.out.1 SB.out.2.1 SB.out.2.2 (HX.out.below (hb.mono hB)) (HY.out.below (hb.mono hB)) (HZ.out.below (hb.mono hB)) (HU.out.below (hb.mono hB)))
 clear HX HY HZ HU;go_enter Tryz.func53,Tryz.ntmps53;go_wp2_with fail;have hw0:Below (w.heap.size+1+1+1) (W3 w s t (.slice ao La ac) (.slice co Lc cc) (.slice bo Lb bc) (.slice dd Ld dc)) (World.drew (((w.alloc (.cells #[.bool s,.slice ao La ac,.slice co Lc cc] 99)).alloc (.cells #[.bool t,.slice bo Lb bc,.slice dd Ld dc] 99)).alloc (.cells #[.bool false,.slice none 0 0,.slice none 0 0] 99))):=(Below.refl _ _).drew
 go_region_held3 (fun W=>Below (w.heap.size+1+1) (W3 w s t (.slice ao La ac) (.slice co Lc cc) (.slice bo Lb bc) (.slice dd Ld dc)) W∧W.cell? ⟨w.heap.size,0,none⟩=some (.bool s)∧W.cell? ⟨w.heap.size,1,none⟩=some (.slice ao La ac)∧W.cell? ⟨w.heap.size,2,none⟩=some (.slice co Lc cc)∧W.cell? ⟨w.heap.size+1,0,none⟩=some (.bool t)∧W.cell? ⟨w.heap.size+1,1,none⟩=some (.slice bo Lb bc)∧W.cell? ⟨w.heap.size+1,2,none⟩=some (.slice dd Ld dc))
  (first | exact KP.out _ (by assumption) | exact KP.out _ ((Below.refl _ _).drew) | exact KP.out _ (bN hv3 (Nat.le_refl _)))
  (first
   | (go_at_call 89;refine (DN _ _ _ _ ⟨_,_,_,rfl⟩ ⟨_,_,_,rfl⟩).mono ?_;rintro e W1 ⟨rfl,hb1⟩;have hw1:=hw0.trans (hb1.mono (KB.out _ hw0).2);have hv1:=hw1.mono (Nat.le_succ (w.heap.size+1+1));clear hb1)
   | (go_at_call 50;refine (T1.out _ hw1).mono ?_;rintro e W2 ⟨v2,p2,e2,rfl,hq2,m1,m2,m3,m4,hb2⟩;have HM:=ah (And.intro m1 (And.intro m2 (And.intro m3 m4)));have hw3:=hw1.trans (hb2.mono (KB.out _ hw1).2);have hv3:=hw3.mono (Nat.le_succ (w.heap.size+1+1));have HR3:=ah (KR.out _ hw3);have HQ2:=ah hq2;obtain ⟨s2,x2,y2,rfl,n2,hn2,hd2,hp2⟩:=hq2;obtain ⟨Ry,L2,cap2,rfl,_⟩:=bC hn2;obtain ⟨Ej,L3,nI,rfl,_⟩:=bC hd2;obtain ⟨r0,r1,r2,r3,r4,r5⟩:=KR.out _ hw3;clear hb2 hn2 hd2 hp2 m1 m2 m3 m4)
   | fail)
 all_goals
  have HW3:=ah (KB.out _ hw3);go_wp2
  refine bodyPost_ret (v:=.agg #[.bool s2,.slice Ry L2 cap2,.slice Ej L3 nI]) (by simp [results,Tryz.results53,go_sem,r0,r1,r2]) rfl ⟨_,_,_,rfl,?_,HM.out.1,HM.out.2.1,HM.out.2.2.1,HM.out.2.2.2,bN HW3.out.1 (by omega)⟩;rw [dW];exact sM.dS HQ2.out HR3.out
theorem QV (B d:Nat) (p:Int) (v:Value) (w:World) (hB:B≤w.heap.size) (hs:Fit p.natAbs) (hd:0<d) (hr:p.natAbs / d≤4611686018427387904) (hv:sM B w v p d) :
  Calls Tryz.prog 84 #[v] w fun e w'=>e=.returned (.int .i64 (p / (d:Int)))∧Below w.heap.size w w':=by
 obtain ⟨s,x,y,rfl,n,hx,hy,rfl⟩:=hv;obtain ⟨ao,L,cap,rfl,_⟩:=bC hx;obtain ⟨bo,M,cap2,rfl,_⟩:=bC hy;rw [fu] at hs;have fn:=hs;rw [fu] at hr;have HD:=ah (fun (W:World) (hW:Below w.heap.size w W)=>nG B n d _ _ W (Nat.le_trans hB hW.size) fn hd (hx.below (hW.mono hB)) (hy.below (hW.mono hB)));have HF:=ah (show Fit (n / d) from fn.le (Nat.div_le_self _ _));have HN:=ah (MF (n:=n) hd);have HP:=ah (Int.natCast_ediv n d);clear hx hy hs fn hd;generalize hq:n / d=q at *;generalize hrr:n % d=r at *;clear hq hrr;go_enter Tryz.func84,Tryz.ntmps84;go_wp2_with fail;refine (HD.out _ ((Below.refl _ _).alloc (Nat.le_refl _) _)).mono ?_;rintro e w1 ⟨v1,v2,rfl,h1,h2,hb⟩;have hc:=((jN w _ _ _ _).below hb (by simp)).c0;obtain ⟨hbw,hsz⟩:=om hb;have HQ:=ah h1;have bA:=ah hbw;obtain ⟨ao1,N1,c1,rfl,hl1⟩:=bC h1;obtain ⟨Ry,N2,c2,rfl,hl2⟩:=bC h2;have AL:=ah (eu hl2);clear h1 h2 hb hbw HD hl1 hl2;go_wp2_with fail;refine (FT _ q _ w1 (Nat.le_refl _) HF.out (by omega) HQ.out).mono ?_;rintro e w2 ⟨rfl,rfl⟩;cases s
 ·have HE:=ah (show sg false n / (d:Int)=(q:Int) from HP.out.symm);clear HN HP AL;go_wp2
  go_ret;exact ⟨by rw [HE.out];rfl,bA.out⟩
 ·by_cases h0:N2=0
  ·have hr0:=AL.out.2 h0;subst h0 hr0;have HE:=ah (show sg true n / (d:Int)=-(q:Int) by show -(n:Int) / (d:Int)=_;rw [HN.out];simp);clear HN HP AL;go_wp2
   go_ret;exact ⟨by rw [HE.out];rfl,bA.out⟩
  ·have hr0:0<r:=by
    have:r≠0:=fun h=>h0 (AL.out.1 h);omega
   have HE:=ah (show sg true n / (d:Int)=-((q:Int)+1) by show -(n:Int) / (d:Int)=_;rw [HN.out,if_pos hr0];omega);have hN2:(0:Int)<(N2:Int):=by omega
   clear HN HP AL hr0 h0;go_wp2
   go_ret;exact ⟨by rw [HE.out];rfl,bA.out⟩
theorem roundR (B d:Nat) (p:Int) (v:Value) (w:World) (hB:B≤w.heap.size) (hs:Fit (p.natAbs*2+d)) (hs2:Fit (d*2)) (hd:0<d) (hr:(p*2+d).natAbs / (d*2)≤4611686018427387904) (hv:sM B w v p d) :
  Calls Tryz.prog 55 #[v] w fun e w'=>e=.returned (.int .i64 (AY p d))∧Below w.heap.size w w':=by
 have HV:=ah hv;obtain ⟨s,ao,L,cap,bo,M,cap2,rfl⟩:=lu hv;have h1:Fit p.natAbs:=hs.le (by omega);have h2:Fit d:=hs2.le (by omega);have HP:=ah (fun (W:World) (u:Value) (hW:Below w.heap.size w W) (hu:sM W.heap.size W u ((1:Nat):Int) 2)=>plusR W.heap.size d 2 p ((1:Nat):Int) _ u W (Nat.le_refl _) h1 h2 (by simpa using hs2.le (show 1≤d*2 by omega)) (hs2.le (by omega)) (by simpa using hs) hs2 (by omega) ((hv.below (hW.mono hB)).more (Nat.le_trans hB hW.size)) hu)
 have HF:=ah (fun (W:World) (u:Value) (q:Int) (g:Nat) (hu:sM W.heap.size W u q g) (hg:0<g) (hq:q.natAbs≤(p*((2:Nat):Int)+((1:Nat):Int)*(d:Int)).natAbs) (he:q*((d*2:Nat):Int)=(p*((2:Nat):Int)+((1:Nat):Int)*(d:Int))*(g:Int))=>QV W.heap.size g q u W (Nat.le_refl _) (hs.le (by omega)) hg (by
  rw [oC hg (by omega) he,show p*((2:Nat):Int)+((1:Nat):Int)*(d:Int)=p*2+d by omega];exact hr) hu)
 have HE:=ah (fun (q:Int) (g:Nat) (hg:0<g) (he:q*((d*2:Nat):Int)=(p*((2:Nat):Int)+((1:Nat):Int)*(d:Int))*(g:Int))=>show q / (g:Int)=AY p d by rw [yQ hg (by omega) he];unfold AY;rw [show p*((2:Nat):Int)+((1:Nat):Int)*(d:Int)=p*2+d by omega]);clear hv hs hs2 hd hr h1 h2
 have KP:=ah (show ∀W,Below (w.heap.size+1) (w.alloc (.cells #[.bool s,.slice ao L cap,.slice bo M cap2] 99)) W→(Below (w.heap.size+1) (w.alloc (.cells #[.bool s,.slice ao L cap,.slice bo M cap2] 99)) W∧W.cell? ⟨w.heap.size,0,none⟩=some (.bool s)∧W.cell? ⟨w.heap.size,1,none⟩=some (.slice ao L cap)∧W.cell? ⟨w.heap.size,2,none⟩=some (.slice bo M cap2)) from fun W hW=>by
  have a:=(jN w _ _ _ _).below hW (by omega);exact ⟨hW,a.c0,a.c1,a.c2⟩)
 have KB:=ah (show ∀W,Below (w.heap.size+1) (w.alloc (.cells #[.bool s,.slice ao L cap,.slice bo M cap2] 99)) W→Below w.heap.size w W∧w.heap.size+1≤W.heap.size from fun W hW=>by
  have h1:=hW.size;simp at h1;exact ⟨((Below.refl _ _).alloc (Nat.le_refl _) _).trans (hW.mono (by omega)),h1⟩)
 go_enter Tryz.func55,Tryz.ntmps55;go_wp2_with fail;have hw0:Below (w.heap.size+1) (w.alloc (.cells #[.bool s,.slice ao L cap,.slice bo M cap2] 99)) (World.drew (w.alloc (.cells #[.bool s,.slice ao L cap,.slice bo M cap2] 99))):=(Below.refl _ _).drew
 go_region_held3 (fun W=>Below (w.heap.size+1) (w.alloc (.cells #[.bool s,.slice ao L cap,.slice bo M cap2] 99)) W∧W.cell? ⟨w.heap.size,0,none⟩=some (.bool s)∧W.cell? ⟨w.heap.size,1,none⟩=some (.slice ao L cap)∧W.cell? ⟨w.heap.size,2,none⟩=some (.slice bo M cap2))
  (first | exact KP.out _ (by assumption) | exact KP.out _ ((Below.refl _ _).drew))
  (first
   | (go_at_call 54;refine (Fz 1 2 _ (by omega) (by omega)).mono ?_;rintro e W1 ⟨v1,rfl,hq1,_,hb1⟩;have hw1:=hw0.trans (hb1.mono (KB.out _ hw0).2);have HQ1:=ah hq1;obtain ⟨s1,ao1,L1,cap1,bo1,M1,capm1,rfl⟩:=lu hq1;clear hq1 hb1)
   | (go_at_call 50;refine (HP.out _ _ (KB.out _ hw1).1 HQ1.out).mono ?_;rintro e W2 ⟨v2,p2,e2,rfl,hq2,m1,m2,m3,m4,hb2⟩;have HM:=ah (And.intro m1 (And.intro m2 m3));clear m1 m2 m3 m4;have hw2:=hw1.trans (hb2.mono (KB.out _ hw1).2);have HQ2:=ah hq2;obtain ⟨s2,Ry,L2,nI,bo2,M2,capm2,rfl⟩:=lu hq2;clear hq2 hb2)
   | (go_at_call 84;refine (HF.out _ _ _ _ HQ2.out HM.out.2.2 HM.out.2.1 HM.out.1).mono ?_;rintro e W3 ⟨rfl,hb3⟩;have hw3:=hw2.trans (hb3.mono (KB.out _ hw2).2);clear hb3)
   | fail)
 all_goals
  have HW3:=ah (KB.out _ hw3);go_wp2
  go_ret;exact ⟨by rw [HE.out _ _ HM.out.2.2 HM.out.1];rfl,HW3.out.1⟩
end Go.Proofs.YtopmdeefcjdadaaGreat
