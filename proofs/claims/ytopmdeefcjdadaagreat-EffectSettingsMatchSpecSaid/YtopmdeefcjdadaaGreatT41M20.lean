import Derived.Test.YtopmdeefcjdadaaGreatT41M00
import Derived.Test.YtopmdeefcjdadaaGreatT41M03
import Derived.Test.YtopmdeefcjdadaaGreatT41M19
set_option linter.unusedVariables false
set_option linter.unusedSimpArgs false
set_option maxRecDepth 100000
set_option maxHeartbeats 32000000
namespace Go.Proofs.YtopmdeefcjdadaaGreat
open Go.RowKit
theorem Bq (r:jw) (x:Run) (sv kv rv:Value) (mb m:Nat) (w:World) (hM:fq w mb m (nT r)) (hx:mY w.heap.size w x sv kv rv) (hf:ru x) :
  Calls Tryz.prog 15 #[pX x sv kv rv,.map (some mb)] w fun e w'=>e=.returned (.int .i64 (dS r x))∧Below w.heap.size w w':=by
 have HMK:=ah (show mb<w.heap.size∧∀W,Below w.heap.size w W→fq W mb m (nT r) from ⟨hM.lt,fun W hb=>hM.below hb⟩);clear hM;have CE:=ah (fun W (hb:Below w.heap.size w W)=>fun ao cap (hsv:sv=.slice ao x.ef.jP.length cap)=>EU x.ef.aJ x.ef.low x.ef.aC x.ef.ay x.ef.av x.ef.ak x.ef.aH x.ef.rel ao cap x.ef.jP W (oL (by rw [←hsv];exact (hx.jP.below hb).more hb.size)) (by obtain ⟨_,_,_,h,_⟩:=hx.jP;exact h));have IQ:=ah hf.2.1;obtain ⟨⟨aJ,low,aC,ay,av,ak,aH,rel,st⟩,aN,aA,aI,bO,aM,aO⟩:=x;obtain ⟨hsv,hkv,sK⟩:=hx;simp only [pX] at *;obtain ⟨so,dI,rfl,_,_⟩:=hsv;obtain ⟨ko,eG,rfl,hk1,hk2,hk3⟩:=hkv;obtain ⟨ro,bK,rfl,hr1,hr2,hr3⟩:=sK;unfold maxLen at hk2 hr2;have CE:=ah (fun W (hb:Below w.heap.size w W)=>CE.out W hb _ _ rfl)
 have HK:=ah (show ∀k (h:k<aN.length),∃b off,ko=some ⟨b,off,none⟩∧b<w.heap.size∧∀W,Below w.heap.size w W→W.cell? ⟨b,off+k*2,none⟩=some (.int .i64 aN[k].1)∧W.cell? ⟨b,off+k*2+1,none⟩=some (.string aN[k].2) from fun k h=>by
  obtain ⟨b,off,h1,h2,h3⟩:=hk3 (by omega);have hg:=iW (fun k:Int×ByteArray=>Value.int .i64 k.1) (fun k=>.string k.2) aN k h;exact ⟨b,off,h1,h2,fun W hb=>⟨(hb.cell (p:=⟨b,off+k*2,none⟩) h2).trans (h3 _ _ hg.1),(hb.cell (p:=⟨b,off+k*2+1,none⟩) h2).trans (h3 (k*2+1) _ hg.2)⟩⟩)
 have HR:=ah (show ∀k (h:k<aI.length),∃b off,ro=some ⟨b,off,none⟩∧b<w.heap.size∧∀W,Below w.heap.size w W→W.cell? ⟨b,off+k*2,none⟩=some (.int .i64 aI[k].1)∧W.cell? ⟨b,off+k*2+1,none⟩=some (.int .i64 aI[k].2) from fun k h=>by
  obtain ⟨b,off,h1,h2,h3⟩:=hr3 (by omega);have hg:=iW (fun k:Int×Int=>Value.int .i64 k.1) (fun k=>.int .i64 k.2) aI k h;exact ⟨b,off,h1,h2,fun W hb=>⟨(hb.cell (p:=⟨b,off+k*2,none⟩) h2).trans (h3 _ _ hg.1),(hb.cell (p:=⟨b,off+k*2+1,none⟩) h2).trans (h3 (k*2+1) _ hg.2)⟩⟩)
 clear hk3 hr3 hf;have ug:=ah (show dS r ⟨⟨aJ,low,aC,ay,av,ak,aH,rel,st⟩,aN,aA,aI,bO,aM,aO⟩=(if qW (dD aJ low aC ay av ak st) aN≠0 then qW (dD aJ low aC ay av ak st) aN else if bP (iB r) aN 0≠0 then bP (iB r) aN 0 else pU aA bO aM aO aI) from rfl);have IV:=ah (show qW (dD aJ low aC ay av ak st) aN=LG (dD aJ low aC ay av ak st) (jN (decide (aN.length=0)) 8) (jN (decide (400<aN.length)) 2) from rfl)
 have HLEN:=ah (show qW (dD aJ low aC ay av ak st) aN=0→0<aN.length∧aN.length≤400 from fun h=>by
  unfold qW LG fi2 jN at h;by_cases c:aN.length=0
  ·simp [c] at h;split at h<;>simp_all
  ·by_cases d:400<aN.length
   ·simp [c,d] at h;split at h<;>simp_all
   ·omega)
 generalize dS r ⟨⟨aJ,low,aC,ay,av,ak,aH,rel,st⟩,aN,aA,aI,bO,aM,aO⟩=RES at *;generalize qW (dD aJ low aC ay av ak st) aN=E1 at *;generalize dD aJ low aC ay av ak st=ce at *
 have KC:=ah (show ∀W,Below (w.heap.size+1) (w.alloc (.cells #[.int .i64 aJ,.int .i64 low,.int .i64 aC,.int .i64 ay,.int .i64 av,.int .i64 ak,.bool aH,.bool rel,.slice so st.length dI,.slice ko aN.length eG,.int .i64 aA,.slice ro aI.length bK,.int .i64 bO,.int .i64 aM,.int .i64 aO] 32)) W→(Below w.heap.size w W∧w.heap.size<W.heap.size∧(W.cell? ⟨w.heap.size,0,none⟩=some (.int .i64 aJ)∧W.cell? ⟨w.heap.size,1,none⟩=some (.int .i64 low)∧W.cell? ⟨w.heap.size,2,none⟩=some (.int .i64 aC)∧W.cell? ⟨w.heap.size,3,none⟩=some (.int .i64 ay)∧W.cell? ⟨w.heap.size,4,none⟩=some (.int .i64 av)∧W.cell? ⟨w.heap.size,5,none⟩=some (.int .i64 ak)∧W.cell? ⟨w.heap.size,6,none⟩=some (.bool aH)∧W.cell? ⟨w.heap.size,7,none⟩=some (.bool rel)∧W.cell? ⟨w.heap.size,8,none⟩=some (.slice so st.length dI)∧W.cell? ⟨w.heap.size,9,none⟩=some (.slice ko aN.length eG)∧W.cell? ⟨w.heap.size,10,none⟩=some (.int .i64 aA)∧W.cell? ⟨w.heap.size,11,none⟩=some (.slice ro aI.length bK)∧W.cell? ⟨w.heap.size,12,none⟩=some (.int .i64 bO)∧W.cell? ⟨w.heap.size,13,none⟩=some (.int .i64 aM)∧W.cell? ⟨w.heap.size,14,none⟩=some (.int .i64 aO))) from fun W hW=>by
  have hz:=hW.size;simp at hz;exact ⟨((Below.refl _ _).alloc (Nat.le_refl _) _).trans (hW.mono (by omega)),by omega,(hW.cell (p:=⟨w.heap.size,0,none⟩) (by simp)).trans (by simp [go_sem]),(hW.cell (p:=⟨w.heap.size,1,none⟩) (by simp)).trans (by simp [go_sem]),(hW.cell (p:=⟨w.heap.size,2,none⟩) (by simp)).trans (by simp [go_sem]),(hW.cell (p:=⟨w.heap.size,3,none⟩) (by simp)).trans (by simp [go_sem]),(hW.cell (p:=⟨w.heap.size,4,none⟩) (by simp)).trans (by simp [go_sem]),(hW.cell (p:=⟨w.heap.size,5,none⟩) (by simp)).trans (by simp [go_sem]),(hW.cell (p:=⟨w.heap.size,6,none⟩) (by simp)).trans (by simp [go_sem]),(hW.cell (p:=⟨w.heap.size,7,none⟩) (by simp)).trans (by simp [go_sem]),(hW.cell (p:=⟨w.heap.size,8,none⟩) (by simp)).trans (by simp [go_sem]),(hW.cell (p:=⟨w.heap.size,9,none⟩) (by simp)).trans (by simp [go_sem]),(hW.cell (p:=⟨w.heap.size,10,none⟩) (by simp)).trans (by simp [go_sem]),(hW.cell (p:=⟨w.heap.size,11,none⟩) (by simp)).trans (by simp [go_sem]),(hW.cell (p:=⟨w.heap.size,12,none⟩) (by simp)).trans (by simp [go_sem]),(hW.cell (p:=⟨w.heap.size,13,none⟩) (by simp)).trans (by simp [go_sem]),(hW.cell (p:=⟨w.heap.size,14,none⟩) (by simp)).trans (by simp [go_sem])⟩)
 have KA:=ah (show ∀W o,Below (w.heap.size+1) (w.alloc (.cells #[.int .i64 aJ,.int .i64 low,.int .i64 aC,.int .i64 ay,.int .i64 av,.int .i64 ak,.bool aH,.bool rel,.slice so st.length dI,.slice ko aN.length eG,.int .i64 aA,.slice ro aI.length bK,.int .i64 bO,.int .i64 aM,.int .i64 aO] 32)) W→Below (w.heap.size+1) (w.alloc (.cells #[.int .i64 aJ,.int .i64 low,.int .i64 aC,.int .i64 ay,.int .i64 av,.int .i64 ak,.bool aH,.bool rel,.slice so st.length dI,.slice ko aN.length eG,.int .i64 aA,.slice ro aI.length bK,.int .i64 bO,.int .i64 aM,.int .i64 aO] 32)) (W.alloc o) from fun W o h=>h.alloc (by have:=h.size;simp at this;omega) o);have KM:=ah (show ∀W W',Below (w.heap.size+1) (w.alloc (.cells #[.int .i64 aJ,.int .i64 low,.int .i64 aC,.int .i64 ay,.int .i64 av,.int .i64 ak,.bool aH,.bool rel,.slice so st.length dI,.slice ko aN.length eG,.int .i64 aA,.slice ro aI.length bK,.int .i64 bO,.int .i64 aM,.int .i64 aO] 32)) W→Below W.heap.size W W'→Below (w.heap.size+1) (w.alloc (.cells #[.int .i64 aJ,.int .i64 low,.int .i64 aC,.int .i64 ay,.int .i64 av,.int .i64 ak,.bool aH,.bool rel,.slice so st.length dI,.slice ko aN.length eG,.int .i64 aA,.slice ro aI.length bK,.int .i64 bO,.int .i64 aM,.int .i64 aO] 32)) W' from fun W W' h1 h2=>h1.trans (h2.mono (by have:=h1.size;simp at this;omega)))
 have hq0:((aN.length:Int)==0)=decide (aN.length=0):=by
  by_cases c:aN.length=0
  ·simp [c]
  ·simp [c]
 have hq1:(decide ((aN.length:Int)>400))=decide (400<aN.length):=by congr 1;exact propext ⟨fun h=>by omega,fun h=>by omega⟩
 go_enter Tryz.func15,Tryz.ntmps15;go_upto_region 1 with fail;go_cut [5] (fun s5 wx=>s5=.int .i64 E1∧Below (w.heap.size+1) (w.alloc (.cells #[.int .i64 aJ,.int .i64 low,.int .i64 aC,.int .i64 ay,.int .i64 av,.int .i64 ak,.bool aH,.bool rel,.slice so st.length dI,.slice ko aN.length eG,.int .i64 aA,.slice ro aI.length bK,.int .i64 bO,.int .i64 aM,.int .i64 aO] 32)) wx)
 case first=>
  have hw0:Below (w.heap.size+1) (w.alloc (.cells #[.int .i64 aJ,.int .i64 low,.int .i64 aC,.int .i64 ay,.int .i64 av,.int .i64 ak,.bool aH,.bool rel,.slice so st.length dI,.slice ko aN.length eG,.int .i64 aA,.slice ro aI.length bK,.int .i64 bO,.int .i64 aM,.int .i64 aO] 32)) (w.alloc (.cells #[.int .i64 aJ,.int .i64 low,.int .i64 aC,.int .i64 ay,.int .i64 av,.int .i64 ak,.bool aH,.bool rel,.slice so st.length dI,.slice ko aN.length eG,.int .i64 aA,.slice ro aI.length bK,.int .i64 bO,.int .i64 aM,.int .i64 aO] 32)):=Below.refl _ _;have hw1:Below (w.heap.size+1) (w.alloc (.cells #[.int .i64 aJ,.int .i64 low,.int .i64 aC,.int .i64 ay,.int .i64 av,.int .i64 ak,.bool aH,.bool rel,.slice so st.length dI,.slice ko aN.length eG,.int .i64 aA,.slice ro aI.length bK,.int .i64 bO,.int .i64 aM,.int .i64 aO] 32)) (World.drew (w.alloc (.cells #[.int .i64 aJ,.int .i64 low,.int .i64 aC,.int .i64 ay,.int .i64 av,.int .i64 ak,.bool aH,.bool rel,.slice so st.length dI,.slice ko aN.length eG,.int .i64 aA,.slice ro aI.length bK,.int .i64 bO,.int .i64 aM,.int .i64 aO] 32))):=(Below.refl _ _).drew
  go_region_held3 (fun W=>W.cell? ⟨w.heap.size,0,none⟩=some (.int .i64 aJ)∧W.cell? ⟨w.heap.size,1,none⟩=some (.int .i64 low)∧W.cell? ⟨w.heap.size,2,none⟩=some (.int .i64 aC)∧W.cell? ⟨w.heap.size,3,none⟩=some (.int .i64 ay)∧W.cell? ⟨w.heap.size,4,none⟩=some (.int .i64 av)∧W.cell? ⟨w.heap.size,5,none⟩=some (.int .i64 ak)∧W.cell? ⟨w.heap.size,6,none⟩=some (.bool aH)∧W.cell? ⟨w.heap.size,7,none⟩=some (.bool rel)∧W.cell? ⟨w.heap.size,8,none⟩=some (.slice so st.length dI)∧W.cell? ⟨w.heap.size,9,none⟩=some (.slice ko aN.length eG)∧W.cell? ⟨w.heap.size,10,none⟩=some (.int .i64 aA)∧W.cell? ⟨w.heap.size,11,none⟩=some (.slice ro aI.length bK)∧W.cell? ⟨w.heap.size,12,none⟩=some (.int .i64 bO)∧W.cell? ⟨w.heap.size,13,none⟩=some (.int .i64 aM)∧W.cell? ⟨w.heap.size,14,none⟩=some (.int .i64 aO))
   (with_reducible first | exact (KC.out _ (by assumption)).2.2 | exact (KC.out _ (KA.out _ _ (by assumption))).2.2)
   (first
    | (go_at_call 37;(with_reducible refine (CE.out _ (KC.out _ (by assumption)).1).mono ?_);rintro e WC ⟨rfl,hbC⟩;have F4:=KM.out _ _ (by assumption) hbC;clear hbC)
    | (go_at_call 17;(with_reducible refine (bX _ _ _).mono ?_);rintro e w' ⟨rfl,rfl⟩)
    | (go_at_call 14;refine (Ju _ ce (jN (decide (aN.length=0)) 8) (jN (decide (400<aN.length)) 2) _ (by simp [go_sem,hq0,hq1]) (by simp [go_sem,hq0,hq1]) (by simp [go_sem,hq0,hq1])).mono ?_;rw [←IV.out];rintro e w' ⟨rfl,rfl⟩)
    | fail)
  all_goals go_wp2_with fail
  all_goals go_meet
  all_goals exact ⟨rfl,by with_reducible first | assumption | exact KA.out _ _ (by assumption)⟩
 case rest=>
  obtain ⟨rfl,hb2⟩:=hcut;obtain ⟨w2,rfl⟩:∃x,x=wc:=⟨wc,rfl⟩;by_cases hE:E1=0;rotate_left
  ·have HV:=ah (show RES=E1 by rw [ug.out,if_pos hE]);have HB:=ah (KC.out _ hb2).1;clear hb2;go_wp2_with fail;go_ret;exact ⟨by rw [HV.out]<;>rfl,HB.out⟩
  ·obtain ⟨hl0,hl1⟩:=HLEN.out hE;have HC:=ah (show RES=if bP (iB r) aN 0≠0 then bP (iB r) aN 0 else pU aA bO aM aO aI by rw [ug.out,if_neg (by simp [hE])]);subst hE;clear ug IV HLEN hq0 hq1;obtain ⟨hB2,hz2,q0,q1,q2,q3,q4,q5,q6,q7,q8,q9,jH,kJ,lu,lY,lX⟩:=KC.out w2 hb2;have HBM:=ah (KA.out _ (.map #[] 0) hb2);clear hB2;have hmm:=@run_makeMap Tryz.prog;go_wp2_with fail;clear hmm;go_loopw [35] (fun i wr=>∃k:Nat,k≤aN.length∧i=.int .i64 k∧Hid (RES=if bP (iB r) aN k≠0 then bP (iB r) aN k else pU aA bO aM aO aI)∧Hid (Below (w.heap.size+1) (w.alloc (.cells #[.int .i64 aJ,.int .i64 low,.int .i64 aC,.int .i64 ay,.int .i64 av,.int .i64 ak,.bool aH,.bool rel,.slice so st.length dI,.slice ko aN.length eG,.int .i64 aA,.slice ro aI.length bK,.int .i64 bO,.int .i64 aM,.int .i64 aO] 32)) wr)∧Hid (dz wr Tryz.prog 40 4 w2.heap.size k ((aN.take k).map lQ))∧w2.heap.size<wr.heap.size) (fun i _=>aN.length-(intOf i).toNat)
   case atStart=>exact ⟨0,Nat.zero_le _,rfl,HC,HBM,ah (by simpa using mD w2 _ _ _),by simp⟩
   case round=>
    obtain ⟨k,hk,rfl,FX,bG,zJ,F5⟩:=hrel;have hmbl:=HMK.out.1;obtain ⟨hB2,hz3,q0,q1,q2,q3,q4,q5,q6,q7,q8,q9,jH,kJ,lu,lY,lX⟩:=KC.out wr bG.out;by_cases hlt:k<aN.length
    ·obtain ⟨b,off,rfl,hbb,hc⟩:=HK.out k hlt;obtain ⟨d0,d1⟩:=hc wr hB2;have hbr:b<wr.heap.size:=by omega
     have HKK:=ah (IQ.out _ (List.getElem_mem hlt));have hkey:=ah (jR HKK.out)
     have Dm:=ah (show lQ aN[k]∈(aN.take k).map lQ↔aN[k]∈aN.take k from ⟨fun h=>by
      obtain ⟨y,hy,he⟩:=List.mem_map.1 h;have:=ze (IQ.out _ (List.mem_of_mem_take hy)) HKK.out he;rwa [←this],fun h=>List.mem_map.2 ⟨_,h,rfl⟩⟩)
     have rG:=ah (eZ (iB r) aN k hlt);have iG:=ah (fP (iB r) aN k hlt);have eF:=ah (show iB r (aN.take k) aN[k]=if (nT r aN[k]).isNone then 8 else if (aN.take k).any (fun y=>decide (y=aN[k])) then 6 else 0 from rfl);have HAI:=ah (show (aN.take k).any (fun y=>decide (y=aN[k]))=true↔aN[k]∈aN.take k by rw [List.any_eq_true];exact ⟨fun ⟨y,hy,e⟩=>by simp at e;rwa [←e],fun h=>⟨_,h,by simp⟩⟩);generalize iB r (aN.take k) aN[k]=FF at *;have sU:=ah (show (aN.take (k+1)).map lQ=(aN.take k).map lQ++[lQ aN[k]] by rw [List.take_succ_eq_append_getElem hlt,List.map_append];rfl);have HKV:=ah (show ∀o,dz (wr.alloc o) Tryz.prog 40 4 w2.heap.size k ((aN.take k).map lQ) from fun o=>zJ.out.kept (World.grownBy_alloc _ _ none) (by simp));generalize (aN.take k).map lQ=S at *;generalize aN[k]=kk at *;obtain ⟨ku,ks⟩:=kk;obtain ⟨DO,hDO⟩:∃o,nT r (ku,ks)=o:=⟨_,rfl⟩;have hq:=((HMK.out.2 wr hB2).alloc (.cells #[.int .i64 ku,.string ks] 40)).look2 HKK.out hDO;rw [hDO] at eF;have hmq:(some mb:Option Nat).isNone=false:=rfl;clear hc hB2;have qmap:∀(w:World) (m:Option Nat),(binOp .neq 48 (.map m) (.map none)).run Tryz.prog w=.ok (.bool (!m.isNone)) w:=fun w m=>run_neq_map_nil w _ _ _ m Tryz.underlying48
     cases DO with
     | none=>
      have HE:FF=8:=by rw [eF.out];rfl
      have HV:=ah (show RES=8 by rw [FX.out,iG.out (by rw [HE];decide),HE];rfl);clear HE;simp only [Option.getD_none,Option.isSome_none] at hq;go_wp2_with fail;go_ret;exact ⟨by rw [HV.out]<;>rfl,(KC.out _ (KA.out _ _ bG.out)).1⟩
     | some dv=>
     simp only [Option.getD_some,Option.isSome_some] at hq;by_cases hin:(ku,ks)∈aN.take k
     ·have HE:FF=6:=by rw [eF.out,HAI.out.2 hin];rfl
      have HV:=ah (show RES=6 by rw [FX.out,iG.out (by rw [HE];decide),HE];rfl);clear HE;go_wp2_with (first | (at_lookup;refine jM _ rfl _ _ 83 rfl 40 4 mQ Tryz.underlying83 Tryz.underlying4 (rO _) w2.heap.size k S rfl (HKV.out _) (yY (ku,ks)) (lQ (ku,ks)) rfl hkey.out ?_;intro c hc;obtain rfl:c=true:=hc.2 (Dm.out.2 hin);clear hc) | fail);go_ret;exact ⟨by rw [HV.out]<;>rfl,(KC.out _ (KA.out _ _ bG.out)).1⟩
     ·have HE:FF=0:=by rw [eF.out,if_neg (by simp),if_neg (fun h=>hin (HAI.out.1 h))]
      have HND2:=ah (show RES=if bP (iB r) aN (k+1)≠0 then bP (iB r) aN (k+1) else pU aA bO aM aO aI by rw [←rG.out HE];exact FX.out);clear HE;go_wp2_with (first | (at_lookup;refine jM _ rfl _ _ 83 rfl 40 4 mQ Tryz.underlying83 Tryz.underlying4 (rO _) w2.heap.size k S rfl (HKV.out _) (yY (ku,ks)) (lQ (ku,ks)) rfl hkey.out ?_;intro c hc;obtain rfl:c=false:=(by cases c;rfl;exact absurd (Dm.out.1 (hc.1 rfl)) hin);clear hc) | (at_mapUpdate;refine lK _ rfl _ _ _ 83 rfl 40 4 mQ Tryz.underlying83 Tryz.underlying4 w2.heap.size k S rfl (HKV.out _) (by unfold maxLen;omega) (yY (ku,ks)) (lQ (ku,ks)) rfl rfl hkey.out ?_;intro w3 hown3 hgrow3) | fail);refine ⟨⟨k+1,by omega,by first | rfl | go_num,HND2,ah ((KA.out _ _ bG.out).grown hgrow3 (by simp;omega) (fun j hj=>by cases hj;omega)),ah (by rw [sU.out];exact hown3),hown3.lt⟩,?_⟩;simp [intOf];omega
    ·have hkk:k=aN.length:=by omega
     have Dr:=ah (show RES=(if mX aA bO aM aO then 1 else if decide (aM=-1)&&decide (aO≠0) then 3 else if 50<aI.length then 2 else rF aA none aI) by
      have h0:=fO (iB r) aN k (by omega);rw [FX.out,if_neg (by rw [h0];simp)];rfl)
     have HB1:=ah (show mX aA bO aM aO=(!bU aA 0 36000000||!bU bO 0 36000000||!bU aO 0 36000000||(decide (aM≠-1)&&!bU aM aA 36000000)) from rfl);clear HC zJ FX;subst hkk;clear hlt hk;go_upto_region 15 with (first | (go_at_call 18;((with_reducible refine (gB _ _).mono ?_);rintro e w' ⟨rfl,rfl⟩)) | (go_at_call 31;((with_reducible refine (aU _ _ _ _).mono ?_);rintro e w' ⟨rfl,rfl⟩)) | fail);go_cut [57] (fun s57 wx=>s57=.bool (mX aA bO aM aO)∧wr=wx)
     case first=>
      rcases Bool.eq_false_or_eq_true (bU aA 0 36000000) with k0 | k0;rotate_left
      ·skip;have HV:=ah (show mX aA bO aM aO=true by rw [HB1.out];simp [*]);go_wp2_with (first | (go_at_call 18;((with_reducible refine (gB _ _).mono ?_);rintro e w' ⟨rfl,rfl⟩)) | (go_at_call 31;((with_reducible refine (aU _ _ _ _).mono ?_);rintro e w' ⟨rfl,rfl⟩)) | fail);all_goals go_meet
       all_goals exact ⟨by rw [HV.out]<;>rfl,rfl⟩
      rcases Bool.eq_false_or_eq_true (bU bO 0 36000000) with k1 | k1;rotate_left
      ·skip;have HV:=ah (show mX aA bO aM aO=true by rw [HB1.out];simp [*]);go_wp2_with (first | (go_at_call 18;((with_reducible refine (gB _ _).mono ?_);rintro e w' ⟨rfl,rfl⟩)) | (go_at_call 31;((with_reducible refine (aU _ _ _ _).mono ?_);rintro e w' ⟨rfl,rfl⟩)) | fail);all_goals go_meet
       all_goals exact ⟨by rw [HV.out]<;>rfl,rfl⟩
      rcases Bool.eq_false_or_eq_true (bU aO 0 36000000) with k2 | k2;rotate_left
      ·skip;have HV:=ah (show mX aA bO aM aO=true by rw [HB1.out];simp [*]);go_wp2_with (first | (go_at_call 18;((with_reducible refine (gB _ _).mono ?_);rintro e w' ⟨rfl,rfl⟩)) | (go_at_call 31;((with_reducible refine (aU _ _ _ _).mono ?_);rintro e w' ⟨rfl,rfl⟩)) | fail);all_goals go_meet
       all_goals exact ⟨by rw [HV.out]<;>rfl,rfl⟩
      by_cases ht:aM=-1
      ·subst ht;have HV:=ah (show mX aA bO (-1) aO=false by rw [HB1.out];simp [*]);go_wp2_with (first | (go_at_call 18;((with_reducible refine (gB _ _).mono ?_);rintro e w' ⟨rfl,rfl⟩)) | (go_at_call 31;((with_reducible refine (aU _ _ _ _).mono ?_);rintro e w' ⟨rfl,rfl⟩)) | fail);all_goals go_meet
       all_goals exact ⟨by rw [HV.out]<;>rfl,rfl⟩
      have ht1:(aM !=-1)=true:=by simp [ht]
      rcases Bool.eq_false_or_eq_true (bU aM aA 36000000) with k3 | k3;rotate_left
      ·skip;have HV:=ah (show mX aA bO aM aO=true by rw [HB1.out];simp [*]);go_wp2_with (first | (go_at_call 18;((with_reducible refine (gB _ _).mono ?_);rintro e w' ⟨rfl,rfl⟩)) | (go_at_call 31;((with_reducible refine (aU _ _ _ _).mono ?_);rintro e w' ⟨rfl,rfl⟩)) | fail);all_goals go_meet
       all_goals exact ⟨by rw [HV.out]<;>rfl,rfl⟩
      have HV:=ah (show mX aA bO aM aO=false by rw [HB1.out];simp [*]);go_wp2_with (first | (go_at_call 18;((with_reducible refine (gB _ _).mono ?_);rintro e w' ⟨rfl,rfl⟩)) | (go_at_call 31;((with_reducible refine (aU _ _ _ _).mono ?_);rintro e w' ⟨rfl,rfl⟩)) | fail);all_goals go_meet
      all_goals exact ⟨by rw [HV.out]<;>rfl,rfl⟩
     case rest=>
      obtain ⟨rfl,rfl⟩:=hcut;generalize mX aA bO aM aO=B1 at *;have HB2:=ah hB2;clear hB2;cases B1;rotate_left
      ·skip;have HV:=ah (show RES=1 by rw [Dr.out];rfl);go_wp2_with (first | (go_at_call 18;((with_reducible refine (gB _ _).mono ?_);rintro e w' ⟨rfl,rfl⟩)) | (go_at_call 31;((with_reducible refine (aU _ _ _ _).mono ?_);rintro e w' ⟨rfl,rfl⟩)) | fail);all_goals go_ret
       all_goals exact ⟨by rw [HV.out]<;>rfl,HB2.out⟩
      go_upto_region 17 with fail;go_cut [87] (fun s87 wx=>s87=.bool (decide (aM=-1)&&decide (aO≠0))∧wr=wx)
      case first=>
       by_cases ht:aM=-1
       ·by_cases hu:aO=0
        ·go_wp2_with fail;all_goals go_meet
         all_goals exact ⟨by simp [ht,hu],rfl⟩
        ·go_wp2_with fail;all_goals go_meet
         all_goals exact ⟨by simp [ht,hu],rfl⟩
       ·go_wp2_with fail;all_goals go_meet
        all_goals exact ⟨by simp [ht],rfl⟩
      case rest=>
       obtain ⟨rfl,rfl⟩:=hcut;generalize (decide (aM=-1)&&decide (aO≠0))=B2 at *;cases B2;rotate_left
       ·skip;have HV:=ah (show RES=3 by rw [Dr.out];rfl);go_wp2_with (first | (go_at_call 18;((with_reducible refine (gB _ _).mono ?_);rintro e w' ⟨rfl,rfl⟩)) | (go_at_call 31;((with_reducible refine (aU _ _ _ _).mono ?_);rintro e w' ⟨rfl,rfl⟩)) | fail);all_goals go_ret
        all_goals exact ⟨by rw [HV.out]<;>rfl,HB2.out⟩
       by_cases h50:50<aI.length
       ·skip;have HV:=ah (show RES=2 by rw [Dr.out];simp [h50]);go_wp2_with (first | (go_at_call 18;((with_reducible refine (gB _ _).mono ?_);rintro e w' ⟨rfl,rfl⟩)) | (go_at_call 31;((with_reducible refine (aU _ _ _ _).mono ?_);rintro e w' ⟨rfl,rfl⟩)) | fail);all_goals go_ret
        all_goals exact ⟨by rw [HV.out]<;>rfl,HB2.out⟩
       have I4:=ah (show RES=rF aA none aI by rw [Dr.out];simp [h50]);have h51:aI.length≤50:=by omega
       clear h50 Dr HB1;go_wp2_with fail;go_loopw [104] (fun i wx=>∃k:Nat,k≤aI.length∧i=.int .i64 k∧Hid (RES=rF aA (mK aI k) (aI.drop k))∧Hid (Below (w.heap.size+1) (w.alloc (.cells #[.int .i64 aJ,.int .i64 low,.int .i64 aC,.int .i64 ay,.int .i64 av,.int .i64 ak,.bool aH,.bool rel,.slice so st.length dI,.slice ko aN.length eG,.int .i64 aA,.slice ro aI.length bK,.int .i64 bO,.int .i64 aM,.int .i64 aO] 32)) wx)) (fun i _=>aI.length-(intOf i).toNat)
       case atStart=>exact ⟨0,Nat.zero_le _,rfl,ah I4.out,bG⟩
       case round=>
        clear bG HB2 F5 hz3 q9 jH kJ lu lY lX;obtain ⟨k,hk2,rfl,iO,dN⟩:=hrel;obtain ⟨hB3,hz4,q0,q1,q2,q3,q4,q5,q6,q7,q8,q9,jH,kJ,lu,lY,lX⟩:=KC.out _ dN.out;by_cases hlt2:k<aI.length
        ·have HST:=ah (iO.out.trans (Jj aA aI k hlt2));obtain ⟨b,off,rfl,hbb,hc⟩:=HR.out k hlt2;obtain ⟨d0,d1⟩:=hc _ hB3;have hbr:=Nat.lt_of_lt_of_le hbb hB3.size;have qA:=ah hB3;clear hB3 iO hc;have MB:=ah (fun h0=>AP aI k h0 hlt2)
         have uT:=ah (fun (h0:0<k)=>show (∀W,Below w.heap.size w W→W.cell? ⟨b,off+(k-1)*2,none⟩=some (.int .i64 (aI[k-1]'(by omega)).1)) from by
          obtain ⟨b',off',e1,_,h3⟩:=HR.out (k-1) (by omega);injection e1 with e1;injection e1 with e2 e3;subst e2 e3;exact fun W hW=>(h3 W hW).1)
         generalize aI[k]=rk at *;obtain ⟨rt,rp⟩:=rk;simp only at d0 d1;rcases Bool.eq_false_or_eq_true (bU rt aA 36000000) with k0 | k0;rotate_left
         ·skip;have HV:=ah (show RES=1 by rw [HST.out];simp [k0]);go_wp2_with (first | (go_at_call 18;((with_reducible refine (gB _ _).mono ?_);rintro e w' ⟨rfl,rfl⟩)) | (go_at_call 31;((with_reducible refine (aU _ _ _ _).mono ?_);rintro e w' ⟨rfl,rfl⟩)) | fail);all_goals go_ret
          all_goals exact ⟨by rw [HV.out]<;>rfl,(KC.out _ (KA.out _ _ dN.out)).1⟩
         rcases Bool.eq_false_or_eq_true (bU rp 0 1000) with k1 | k1;rotate_left
         ·skip;have HV:=ah (show RES=1 by rw [HST.out];simp [k0,k1]);go_wp2_with (first | (go_at_call 18;((with_reducible refine (gB _ _).mono ?_);rintro e w' ⟨rfl,rfl⟩)) | (go_at_call 31;((with_reducible refine (aU _ _ _ _).mono ?_);rintro e w' ⟨rfl,rfl⟩)) | fail);all_goals go_ret
          all_goals exact ⟨by rw [HV.out]<;>rfl,(KC.out _ (KA.out _ _ dN.out)).1⟩
         by_cases h0:k=0
         ·subst h0;simp only [Nat.zero_mul,Nat.add_zero,Nat.zero_add] at d0 d1;have uU:=ah (show RES=rF aA (mK aI (0+1)) (aI.drop (0+1)) by rw [HST.out];simp [k0,k1,mK]);go_wp2_with (first | (go_at_call 18;((with_reducible refine (gB _ _).mono ?_);rintro e w' ⟨rfl,rfl⟩)) | (go_at_call 31;((with_reducible refine (aU _ _ _ _).mono ?_);rintro e w' ⟨rfl,rfl⟩)) | fail);go_quiet (fail)
          go_wp2_with fail;go_roundw
          case rel=>exact ⟨1,by omega,rfl,uU,ah (dF (KA.out _ _ dN.out) _)⟩
          case measure=>simp [intOf];omega
         ·have HPP:=ah (MB.out (by omega));have d2:=uT.out (by omega) _ qA.out;clear MB uT;generalize (aI[k-1]'(by omega))=rj at *;obtain ⟨jt,jp⟩:=rj;simp only at d2;obtain ⟨j,rfl⟩:∃j,k=j+1:=⟨k-1,by omega⟩;simp only [Nat.add_sub_cancel] at d2;have hji:((j+1:Nat):Int)-1=(j:Int):=by omega
          by_cases hle:rt≤jt
          ·skip;have HV:=ah (show RES=7 by rw [HST.out,HPP.out];simp [k0,k1,hle]);go_wp2_with (first | (go_at_call 18;((with_reducible refine (gB _ _).mono ?_);rintro e w' ⟨rfl,rfl⟩)) | (go_at_call 31;((with_reducible refine (aU _ _ _ _).mono ?_);rintro e w' ⟨rfl,rfl⟩)) | fail);go_quiet (fail)
           go_wp2_with fail;go_ret;exact ⟨by rw [HV.out]<;>rfl,dF (KC.out _ (KA.out _ _ dN.out)).1 _⟩
          ·have uU:=ah (show RES=rF aA (mK aI (j+1+1)) (aI.drop (j+1+1)) by rw [HST.out,HPP.out];simp [k0,k1,hle]);have OO:decide (rt≤jt)=false:=by simpa using hle
           go_wp2_with (first | (go_at_call 18;((with_reducible refine (gB _ _).mono ?_);rintro e w' ⟨rfl,rfl⟩)) | (go_at_call 31;((with_reducible refine (aU _ _ _ _).mono ?_);rintro e w' ⟨rfl,rfl⟩)) | fail);go_quiet (fail)
           go_wp2_with fail;go_roundw
           case rel=>exact ⟨j+1+1,by omega,by go_num,uU,ah (dF (KA.out _ _ dN.out) _)⟩
           case measure=>simp [intOf];omega
        ·have HV:=ah (show RES=0 by rw [iO.out,List.drop_of_length_le (by omega)];rfl);have qA:=ah hB3;clear hB3;go_wp2_with (first | (go_at_call 18;((with_reducible refine (gB _ _).mono ?_);rintro e w' ⟨rfl,rfl⟩)) | (go_at_call 31;((with_reducible refine (aU _ _ _ _).mono ?_);rintro e w' ⟨rfl,rfl⟩)) | fail);go_ret;exact ⟨by rw [HV.out]<;>rfl,qA.out⟩
end Go.Proofs.YtopmdeefcjdadaaGreat
