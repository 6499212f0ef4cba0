import Derived.Test.YtopmdeefcjdadaaGreatT42M43
set_option maxRecDepth 100000
set_option maxHeartbeats 32000000
namespace Go.Proofs.YtopmdeefcjdadaaGreat.effectAppliesMatchSpec
open Go.RowKit
theorem walk (v0 v1 v2:Value) (t:Int) (w:World) (h0:RigW w v0) (h1:RunsW w v1) (h2:StgW w v2) (g3:(Lit.int .i64 t).wf=true) :
  Calls Tryz.prog 4 #[v0,v1,v2,.int .i64 t] w fun e w'=>e=.returned (.bool true)∧Below w.heap.size w w':=by
 obtain ⟨r,lv,uv,rfl,h,hrf⟩:=h0;obtain ⟨xs,hX,hXf⟩:=h1;obtain ⟨l,hS,hSf⟩:=h2;have CP:=ah (fun W (hb:Below w.heap.size w W)=>N9 r lv uv xs v1 l v2 t W ((h.below hb).more hb.size) hrf ((hX.below hb).more hb.size) hXf ((hS.below hb).more hb.size) hSf);have CR:=ah (fun W (hb:Below w.heap.size w W)=>IC r lv uv xs v1 l v2 t W ((h.below hb).more hb.size) hrf ((hX.below hb).more hb.size) hXf ((hS.below hb).more hb.size) hSf);clear h hrf hX hXf hS hSf g3;generalize vN r xs l t=FF at *;generalize xP r xs l t=VV at *;simp only [mG] at *;obtain ⟨w1,hw1⟩:∃w1,w1=w.alloc (.cells #[lv,uv] 25):=⟨_,rfl⟩;have Az:=ah (show aH w1 w.heap.size 25 #[lv,uv] from hw1▸aH.new w #[lv,uv] 25);have HB1:=ah (show Below w.heap.size w w1 from hw1▸(Below.refl w.heap.size w).alloc (Nat.le_refl _) (.cells #[lv,uv] 25));go_enter Tryz.func4,Tryz.ntmps4;go_upto_region 1 with fail;rw [←hw1];clear hw1;have KC:=ah (show ∀W,Below w1.heap.size w1 W→Below w.heap.size w W∧w.heap.size<W.heap.size∧W.cell? ⟨w.heap.size,0,none⟩=some lv∧W.cell? ⟨w.heap.size,1,none⟩=some uv from fun W h=>⟨HB1.out.trans (h.mono HB1.out.size),(Az.out.below h).lt,(Az.out.below h).cell (i:=0) rfl,(Az.out.below h).cell (i:=1) rfl⟩);have KM:=ah (show ∀W W',Below w1.heap.size w1 W→Below W.heap.size W W'→Below w1.heap.size w1 W' from fun W W' h1 h2=>h1.trans (h2.mono h1.size));have Oj:=ah (Below.refl w1.heap.size w1);obtain ⟨kb,kl,g0,g1⟩:=KC.out _ Oj.out;have HB:=ah kb;go_wp2_with fail;refine (CP.out _ HB.out).mono ?_;rintro e w2 ⟨o1,rfl,QL,hb⟩;have RG:=ah (KM.out _ _ Oj.out hb);have mO:=ah QL.stgS;clear hb HB Oj CP QL kb kl g0 g1;obtain ⟨kb,kl,g0,g1⟩:=KC.out _ RG.out;have HB:=ah kb;go_wp2_with fail;refine (CR.out _ HB.out).mono ?_;rintro e w3 ⟨o2,rfl,hO2,hb⟩;have KR3:=ah (KM.out _ _ RG.out hb);have nT:=ah hO2.stgS;have mO:=ah ((mO.out.below hb).more hb.size);have HB3:=ah (KC.out _ KR3.out).1;clear hb HB RG CR hO2 kb kl g0 g1;have CQ:=ah (zq o1 o2 VV w3 mO.out nT.out)
 obtain ⟨oa1,oc1,rfl⟩:∃ao cap,o1=.slice ao VV.length cap:=by
  obtain ⟨ao,cap,rfl,_⟩:=aW.shape mO.out;exact ⟨ao,cap,rfl⟩
 obtain ⟨oa2,oc2,rfl⟩:∃ao cap,o2=.slice ao VV.length cap:=by
  obtain ⟨ao,cap,rfl,_⟩:=aW.shape nT.out;exact ⟨ao,cap,rfl⟩
 clear mO nT KR3;have hff:(FF==FF)=true:=by simp
 go_wp2_with fail;refine CQ.out.mono ?_;rintro e w4 ⟨rfl,hb⟩;have pU:=ah (HB3.out.trans (hb.mono HB3.out.size));clear hb;go_wp2_with fail;go_ret;exact ⟨rfl,pU.out⟩
end Go.Proofs.YtopmdeefcjdadaaGreat.effectAppliesMatchSpec
