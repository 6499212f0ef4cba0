import Derived.Test.YtopmdeefcjdadaaGreatT42M35
import Derived.Test.YtopmdeefcjdadaaGreatT42M30
import Derived.Test.YtopmdeefcjdadaaGreatT42M31
import Derived.Test.YtopmdeefcjdadaaGreatT42M32
import Derived.Test.YtopmdeefcjdadaaGreatT42M33
import Derived.Test.YtopmdeefcjdadaaGreatT42M34
set_option maxRecDepth 100000
set_option maxHeartbeats 32000000
namespace Go.Proofs.YtopmdeefcjdadaaGreat
open Go.RowKit
theorem nilA_7 (ao : Option Addr) (cap : Nat) (l : List Stp) (c : Int) (W : World) : Sem.run Tryz.prog (nilAhead (Tryz.prog.types.size + Made.depth) 153 (.agg #[.slice ao l.length cap, .int .i64 c]) "cyclorama/effect.way") W = .ok (some false) W := by kernel_rfl
theorem meth_7 (ao : Option Addr) (cap : Nat) (l : List Stp) (c : Int) (W : World) : Sem.run Tryz.prog (method (Tryz.prog.types.size + Made.depth) 153 (.agg #[.slice ao l.length cap, .int .i64 c]) "cyclorama/effect.way") W = .ok (139, .agg #[.slice ao l.length cap, .int .i64 c]) W := by kernel_rfl
theorem way_7 (low aD aA ay ak:Int) (aI rel:Bool) (ao:Option Addr) (cap:Nat) (l:List Stp) (aL count clock c pn pd pk:Int) (w:World) (hs:eH w.heap.size w ao l) (hl:l.length≤50) (hall:l.all fV=true) (hc:0≤aA∧aA≤3600000)
  (hcc:aA+dh l=c) (c0:1≤c) (c1:c≤3600000) (n0:1≤count) (n1:count≤400) (i0:0≤aL) (i1:aL≤400) (k0:0≤clock) (k1:clock≤36360000000) (s0:-10000≤ak) (s1:ak≤10000)
  (hpn:AA aI (mE c ak aL count clock) (j6 c count)=pn) (nQ:j6 c count=pd) (hpk:mE c ak aL count clock / j6 c count=pk) :
  Calls Tryz.prog 41 #[.agg #[.int .i64 7,.int .i64 low,.int .i64 aD,.int .i64 aA,.int .i64 ay,.int .i64 ak,.bool aI,.bool rel,.slice ao l.length cap],.int .i64 aL,.int .i64 count,.int .i64 clock] w fun e w'=>e=.returned (.tuple #[.agg #[.int .u64 (hw 0 (iA l (pn*c) pd l.length 0 0).1),.int .u64 (hw 1 (iA l (pn*c) pd l.length 0 0).1),.int .u64 (hw 2 (iA l (pn*c) pd l.length 0 0).1),.int .u64 (hw 3 (iA l (pn*c) pd l.length 0 0).1),.int .u64 (hw 4 (iA l (pn*c) pd l.length 0 0).1),.int .u64 (hw 5 (iA l (pn*c) pd l.length 0 0).1)],.agg #[.int .u64 (hw 0 (iA l (pn*c) pd l.length 0 0).2),.int .u64 (hw 1 (iA l (pn*c) pd l.length 0 0).2),.int .u64 (hw 2 (iA l (pn*c) pd l.length 0 0).2),.int .u64 (hw 3 (iA l (pn*c) pd l.length 0 0).2),.int .u64 (hw 4 (iA l (pn*c) pd l.length 0 0).2),.int .u64 (hw 5 (iA l (pn*c) pd l.length 0 0).2)]])∧Below w.heap.size w w':=by
 obtain ⟨xA,xw⟩:=ig c0 c1 n0 n1;have hpr:=jq aI (mE c ak aL count clock) (d:=j6 c count) (by omega);have CW:=ah (fun (W:World) (hb:Below w.heap.size w W)=>kX 7 low aD aA ay ak aI rel ao cap l aL count clock c W (dA hs hb) hl hall hc hcc c0 c1 n0 n1 i0 i1 k0 k1 s0 s1);rw [hpn,hpk,nQ] at CW;rw [hpn,nQ] at hpr;rw [nQ] at xA xw;obtain ⟨xq,wZ⟩:=hpr;have yF:pd≤1000000000000000000:=by omega
 have Gb:pd≤1000000000000000:=by omega
 have Jh:0≤c:=by omega
 have uM:c≤3600000:=c1;have HS:=ah (fun (W:World) (hb:Below w.heap.size w W)=>dA hs hb);clear hpn hpk nQ hs;have HT:=ah (show aH (((w.alloc (.cells #[.int .i64 7,.int .i64 low,.int .i64 aD,.int .i64 aA,.int .i64 ay,.int .i64 ak,.bool aI,.bool rel,.slice ao l.length cap] 28)).alloc (.cells #[.int .u64 0,.int .u64 0,.int .u64 0,.int .u64 0,.int .u64 0,.int .u64 0] 88)).alloc (.cells #[.int .u64 0,.int .u64 0,.int .u64 0,.int .u64 0,.int .u64 0,.int .u64 0] 88)) w.heap.size 28 #[.int .i64 7,.int .i64 low,.int .i64 aD,.int .i64 aA,.int .i64 ay,.int .i64 ak,.bool aI,.bool rel,.slice ao l.length cap] from ((aH.new w _ _).alloc _).alloc _)
 have HT2:=ah (show aH (((w.alloc (.cells #[.int .i64 7,.int .i64 low,.int .i64 aD,.int .i64 aA,.int .i64 ay,.int .i64 ak,.bool aI,.bool rel,.slice ao l.length cap] 28)).alloc (.cells #[.int .u64 0,.int .u64 0,.int .u64 0,.int .u64 0,.int .u64 0,.int .u64 0] 88)).alloc (.cells #[.int .u64 0,.int .u64 0,.int .u64 0,.int .u64 0,.int .u64 0,.int .u64 0] 88)) (w.heap.size+1) 88 #[.int .u64 0,.int .u64 0,.int .u64 0,.int .u64 0,.int .u64 0,.int .u64 0] from by
  have h:=(aH.new (w.alloc (.cells #[.int .i64 7,.int .i64 low,.int .i64 aD,.int .i64 aA,.int .i64 ay,.int .i64 ak,.bool aI,.bool rel,.slice ao l.length cap] 28)) #[.int .u64 0,.int .u64 0,.int .u64 0,.int .u64 0,.int .u64 0,.int .u64 0] 88).alloc (.cells #[.int .u64 0,.int .u64 0,.int .u64 0,.int .u64 0,.int .u64 0,.int .u64 0] 88);simpa only [World.size_alloc] using h)
 have HT3:=ah (show aH (((w.alloc (.cells #[.int .i64 7,.int .i64 low,.int .i64 aD,.int .i64 aA,.int .i64 ay,.int .i64 ak,.bool aI,.bool rel,.slice ao l.length cap] 28)).alloc (.cells #[.int .u64 0,.int .u64 0,.int .u64 0,.int .u64 0,.int .u64 0,.int .u64 0] 88)).alloc (.cells #[.int .u64 0,.int .u64 0,.int .u64 0,.int .u64 0,.int .u64 0,.int .u64 0] 88)) (w.heap.size+2) 88 #[.int .u64 0,.int .u64 0,.int .u64 0,.int .u64 0,.int .u64 0,.int .u64 0] from by
  have h:=aH.new ((w.alloc (.cells #[.int .i64 7,.int .i64 low,.int .i64 aD,.int .i64 aA,.int .i64 ay,.int .i64 ak,.bool aI,.bool rel,.slice ao l.length cap] 28)).alloc (.cells #[.int .u64 0,.int .u64 0,.int .u64 0,.int .u64 0,.int .u64 0,.int .u64 0] 88)) #[.int .u64 0,.int .u64 0,.int .u64 0,.int .u64 0,.int .u64 0,.int .u64 0] 88;simpa only [World.size_alloc] using h)
 have HB := ah (show Below w.heap.size w (((w.alloc (.cells #[.int .i64 7, .int .i64 low, .int .i64 aD, .int .i64 aA, .int .i64 ay, .int .i64 ak, .bool aI, .bool rel, .slice ao l.length cap] 28)).alloc (.cells #[.int .u64 0, .int .u64 0, .int .u64 0, .int .u64 0, .int .u64 0, .int .u64 0] 88)).alloc (.cells #[.int .u64 0, .int .u64 0, .int .u64 0, .int .u64 0, .int .u64 0, .int .u64 0] 88)) from (((Below.refl _ _).alloc (Nat.le_refl _) _).alloc (by simp) _).alloc (by simp; omega) _);have yx : w.heap.size ≤ ((((w.alloc (.cells #[.int .i64 7, .int .i64 low, .int .i64 aD, .int .i64 aA, .int .i64 ay, .int .i64 ak, .bool aI, .bool rel, .slice ao l.length cap] 28)).alloc (.cells #[.int .u64 0, .int .u64 0, .int .u64 0, .int .u64 0, .int .u64 0, .int .u64 0] 88)).alloc (.cells #[.int .u64 0, .int .u64 0, .int .u64 0, .int .u64 0, .int .u64 0, .int .u64 0] 88))).heap.size := HB.out.size;go_enter Tryz.func41, Tryz.ntmps41;go_upto_region 1 with fail;generalize hw1 : (((w.alloc (.cells #[.int .i64 7, .int .i64 low, .int .i64 aD, .int .i64 aA, .int .i64 ay, .int .i64 ak, .bool aI, .bool rel, .slice ao l.length cap] 28)).alloc (.cells #[.int .u64 0, .int .u64 0, .int .u64 0, .int .u64 0, .int .u64 0, .int .u64 0] 88)).alloc (.cells #[.int .u64 0, .int .u64 0, .int .u64 0, .int .u64 0, .int .u64 0, .int .u64 0] 88)) = w1 at *;clear hw1;refine aX (by kernel_rfl) 13 (by simp) (by kernel_rfl) (by kernel_rfl) (by kernel_rfl) (by kernel_rfl) (fun jx vx wx => match jx with | 0 => vx = (.agg #[.int .i64 7, .int .i64 low, .int .i64 aD, .int .i64 aA, .int .i64 ay, .int .i64 ak, .bool aI, .bool rel, .slice ao l.length cap]) | 1 => vx = (.iface 153 (.agg #[.slice ao l.length cap, .int .i64 c])) | 2 => vx = (.agg #[.int .i64 7, .int .i64 low, .int .i64 aD, .int .i64 aA, .int .i64 ay, .int .i64 ak, .bool aI, .bool rel, .slice ao l.length cap]) | 3 => vx = (.int .i64 aL) | 4 => vx = (.int .i64 count) | 5 => vx = (.int .i64 clock) | 6 => vx = (.agg #[.int .i64 pn, .int .i64 pd, .int .i64 pk, .int .i64 aL]) | 7 => vx = (.func (.method "cyclorama/effect.way") #[.iface 153 (.agg #[.slice ao l.length cap, .int .i64 c])] #[]) | 8 => vx = (.func (.method "cyclorama/effect.way") #[.iface 153 (.agg #[.slice ao l.length cap, .int .i64 c])] #[]) | 9 => vx = (.iface 153 (.agg #[.slice ao l.length cap, .int .i64 c])) | 10 => vx = (.tuple #[.agg #[.int .u64 (hw 0 (iA l (pn * c) pd l.length 0 0).1), .int .u64 (hw 1 (iA l (pn * c) pd l.length 0 0).1), .int .u64 (hw 2 (iA l (pn * c) pd l.length 0 0).1), .int .u64 (hw 3 (iA l (pn * c) pd l.length 0 0).1), .int .u64 (hw 4 (iA l (pn * c) pd l.length 0 0).1), .int .u64 (hw 5 (iA l (pn * c) pd l.length 0 0).1)], .agg #[.int .u64 (hw 0 (iA l (pn * c) pd l.length 0 0).2), .int .u64 (hw 1 (iA l (pn * c) pd l.length 0 0).2), .int .u64 (hw 2 (iA l (pn * c) pd l.length 0 0).2), .int .u64 (hw 3 (iA l (pn * c) pd l.length 0 0).2), .int .u64 (hw 4 (iA l (pn * c) pd l.length 0 0).2), .int .u64 (hw 5 (iA l (pn * c) pd l.length 0 0).2)]]) | 11 => vx = (.agg #[.int .u64 (hw 0 (iA l (pn * c) pd l.length 0 0).1), .int .u64 (hw 1 (iA l (pn * c) pd l.length 0 0).1), .int .u64 (hw 2 (iA l (pn * c) pd l.length 0 0).1), .int .u64 (hw 3 (iA l (pn * c) pd l.length 0 0).1), .int .u64 (hw 4 (iA l (pn * c) pd l.length 0 0).1), .int .u64 (hw 5 (iA l (pn * c) pd l.length 0 0).1)]) | 12 => vx = (.agg #[.int .u64 (hw 0 (iA l (pn * c) pd l.length 0 0).2), .int .u64 (hw 1 (iA l (pn * c) pd l.length 0 0).2), .int .u64 (hw 2 (iA l (pn * c) pd l.length 0 0).2), .int .u64 (hw 3 (iA l (pn * c) pd l.length 0 0).2), .int .u64 (hw 4 (iA l (pn * c) pd l.length 0 0).2), .int .u64 (hw 5 (iA l (pn * c) pd l.length 0 0).2)]) | _ => True) (fun W => Below w1.heap.size w1 W) (fun wx wy => Below wx.heap.size wx wy) (Below.refl _ _).drew ?_ ?_ ?_ ?_
 ·intro jx vx wx wy h g
  match jx,h with
  | 0,h | 1,h | 2,h | 3,h | 4,h | 5,h | 6,h | 7,h | 8,h | 9,h | 10,h | 11,h | 12,h=>exact h
  | jx+13,h=>exact trivial
 ·intro jx ox dx hj ho hd;exact bO (by kernel_rfl) hj ho hd
 ·intro ix ox ax W hi aC hsh hW hpre;have hsz:w1.heap.size≤W.heap.size:=hW.size;have GA:∀ob,Below W.heap.size W (W.alloc ob):=fun ob=>(Below.refl _ _).alloc (Nat.le_refl _) ob;have WA:∀ob,Below w1.heap.size w1 (W.alloc ob):=fun ob=>hW.alloc hsz ob;have t1:ax.tmps[1]?.getD undef=(.int .i64 aL):=gT (hsh.2.2 1 (aM (by kernel_rfl)));have t2:ax.tmps[2]?.getD undef=(.int .i64 count):=gT (hsh.2.2 2 (aM (by kernel_rfl)));have t3:ax.tmps[3]?.getD undef=(.int .i64 clock):=gT (hsh.2.2 3 (aM (by kernel_rfl)));have t4:ax.tmps[4]?.getD undef=(.pointer (some ⟨w.heap.size,0,none⟩)):=gT (hsh.2.2 4 (aM (by kernel_rfl)));obtain ⟨q0,q1,q2,q3,q4,q5,q6,q7,q8⟩:W.cell? ⟨w.heap.size,0,none⟩=some (.int .i64 7)∧W.cell? ⟨w.heap.size,1,none⟩=some (.int .i64 low)∧W.cell? ⟨w.heap.size,2,none⟩=some (.int .i64 aD)∧W.cell? ⟨w.heap.size,3,none⟩=some (.int .i64 aA)∧W.cell? ⟨w.heap.size,4,none⟩=some (.int .i64 ay)∧W.cell? ⟨w.heap.size,5,none⟩=some (.int .i64 ak)∧W.cell? ⟨w.heap.size,6,none⟩=some (.bool aI)∧W.cell? ⟨w.heap.size,7,none⟩=some (.bool rel)∧W.cell? ⟨w.heap.size,8,none⟩=some (.slice ao l.length cap):=⟨(HT.out.below hW).cell (i:=0) rfl,(HT.out.below hW).cell (i:=1) rfl,(HT.out.below hW).cell (i:=2) rfl,(HT.out.below hW).cell (i:=3) rfl,(HT.out.below hW).cell (i:=4) rfl,(HT.out.below hW).cell (i:=5) rfl,(HT.out.below hW).cell (i:=6) rfl,(HT.out.below hW).cell (i:=7) rfl,(HT.out.below hW).cell (i:=8) rfl⟩;have hna:=nilA_7 ao cap l c W;have hme:=meth_7 ao cap l c W;simp [go_sem] at hna hme;clear hsh
  match ix,hi,aC with
  | 0,_,aC=>
   cases aC;exact au (w':=W) (by simp [execOp,Act.eval,t4,q0,q1,q2,q3,q4,q5,q6,q7,q8,go_sem]) (aS hW)
  | 1,_,aC=>
   cases aC;have f0:=gT (hpre ⟨0,.data⟩ (by simp) (by rfl) _ _ rfl rfl);refine aG (by simp [execOp,Act.eval,f0,go_sem]) ((OE low aD aA ay ak aI rel ao cap l c W (HS.out W (HB.out.trans (hW.mono yx))) hl hall hc hcc).mono ?_);rintro ex wy ⟨rfl,hb⟩;exact ⟨_,rfl,_,rfl,rfl,hW.trans (hb.mono hsz),hb⟩
  | 2,_,aC=>
   cases aC;exact au (w':=W) (by simp [execOp,Act.eval,t4,q0,q1,q2,q3,q4,q5,q6,q7,q8,go_sem]) (aS hW)
  | 3,_,aC=>
   cases aC;exact au (w':=W) (by simp [execOp,Act.eval,t1,go_sem]) (aS hW)
  | 4,_,aC=>
   cases aC;exact au (w':=W) (by simp [execOp,Act.eval,t2,go_sem]) (aS hW)
  | 5,_,aC=>
   cases aC;exact au (w':=W) (by simp [execOp,Act.eval,t3,go_sem]) (aS hW)
  | 6,_,aC=>
   cases aC;have f2:=gT (hpre ⟨2,.data⟩ (by simp) (by rfl) _ _ rfl rfl);have f3:=gT (hpre ⟨3,.data⟩ (by simp) (by rfl) _ _ rfl rfl);have f4:=gT (hpre ⟨4,.data⟩ (by simp) (by rfl) _ _ rfl rfl);have f5:=gT (hpre ⟨5,.data⟩ (by simp) (by rfl) _ _ rfl rfl);refine aG (by simp [execOp,Act.eval,f2,f3,f4,f5,go_sem]) ((CW.out W (HB.out.trans (hW.mono yx))).mono ?_);rintro ex wy ⟨rfl,hb⟩;exact ⟨_,rfl,_,rfl,rfl,hW.trans (hb.mono hsz),hb⟩
  | 7,_,aC=>
   cases aC;have f1:=gT (hpre ⟨1,.data⟩ (by simp) (by rfl) _ _ rfl rfl);exact au (w':=W) (by simp [execOp,Act.eval,f1,go_sem]) (aS hW)
  | 8,_,aC=>
   cases aC;have f7:=gT (hpre ⟨7,.data⟩ (by simp) (by rfl) _ _ rfl rfl);exact au (w':=W) (by simp [execOp,Act.eval,hna,f7,go_sem]) (aS hW)
  | 9,_,aC=>
   cases aC;have f1:=gT (hpre ⟨1,.data⟩ (by simp) (by rfl) _ _ rfl rfl);exact au (w':=W) (by simp [execOp,Act.eval,f1,go_sem]) (aS hW)
  | 10,_,aC=>
   cases aC;have f9:=gT (hpre ⟨9,.data⟩ (by simp) (by rfl) _ _ rfl rfl);have f6:=gT (hpre ⟨6,.data⟩ (by simp) (by rfl) _ _ rfl rfl);refine aG (by simp [execOp,Act.eval,hme,f9,f6,go_sem]) ((LA ao cap l c pn pd pk aL W (HS.out W (HB.out.trans (hW.mono yx))) hl hall Jh uM xq wZ Gb).mono ?_);rintro ex wy ⟨rfl,hb⟩;exact ⟨_,rfl,_,rfl,rfl,hW.trans (hb.mono hsz),hb⟩
  | 11,_,aC=>
   cases aC;have f10:=gT (hpre ⟨10,.data⟩ (by simp) (by rfl) _ _ rfl rfl);exact au (w':=W) (by simp [execOp,Act.eval,f10,go_sem]) (aS hW)
  | 12,_,aC=>
   cases aC;have f10:=gT (hpre ⟨10,.data⟩ (by simp) (by rfl) _ _ rfl rfl);exact au (w':=W) (by simp [execOp,Act.eval,f10,go_sem]) (aS hW)
  | ix+13,hi,_=>exact absurd hi (by omega)
 ·intro ax W hsh hW hφ;have e0:=hφ 0 _ _ (by omega) rfl rfl;have e1:=hφ 1 _ _ (by omega) rfl rfl;have e2:=hφ 2 _ _ (by omega) rfl rfl;have e3:=hφ 3 _ _ (by omega) rfl rfl;have e4:=hφ 4 _ _ (by omega) rfl rfl;have e5:=hφ 5 _ _ (by omega) rfl rfl;have e6:=hφ 6 _ _ (by omega) rfl rfl;have e7:=hφ 7 _ _ (by omega) rfl rfl;have e8:=hφ 8 _ _ (by omega) rfl rfl;have e9:=hφ 9 _ _ (by omega) rfl rfl;have e10:=hφ 10 _ _ (by omega) rfl rfl;have e11:=hφ 11 _ _ (by omega) rfl rfl;have e12:=hφ 12 _ _ (by omega) rfl rfl;rw [bf hsh [(10,_),(11,_),(12,_),(13,_),(14,_),(15,_),(16,_),(17,_),(18,_),(19,_),(20,_),(21,_),(22,_)] [10,11,12,13,14,15,16,17,18,19,20,21,22] rfl (by kernel_rfl) ⟨e0,e1,e2,e3,e4,e5,e6,e7,e8,e9,e10,e11,e12,trivial⟩];clear hφ hsh e0 e1 e2 e3 e4 e5 e6 e7 e8 e9 e10 e11 e12;simp only [cB,List.foldl_cons,List.foldl_nil,List.drop_succ_cons,List.drop_zero,Act.put,List.setIfInBounds_toArray,List.set_cons_succ,List.set_cons_zero];have bA:=ah (HB.out.trans (hW.mono yx));have r2:=HT2.out.below hW;have r3:=HT3.out.below hW;clear hW;refine aZ W rfl _ _ rfl (w.heap.size+1) rfl rfl r2 ?_;intro wy t2 g2;simp only [Act.put];refine aZ wy rfl _ _ rfl (w.heap.size+2) rfl rfl (r3.fE g2 (by omega)) ?_;intro wz t3 g3;simp only [Act.put];have t2':=t2.fE g3 (by omega);have gu:=ah (aY (aY bA.out g2 bA.out.size (by omega)) g3 (by have:=bA.out.size;have:=g2.size;omega) (by omega));have x0:=t2'.cell (i:=0) rfl;have y0:=t3.cell (i:=0) rfl;have x1:=t2'.cell (i:=1) rfl;have y1:=t3.cell (i:=1) rfl;have x2:=t2'.cell (i:=2) rfl;have y2:=t3.cell (i:=2) rfl;have x3:=t2'.cell (i:=3) rfl;have y3:=t3.cell (i:=3) rfl;have x4:=t2'.cell (i:=4) rfl;have y4:=t3.cell (i:=4) rfl;have x5:=t2'.cell (i:=5) rfl;have y5:=t3.cell (i:=5) rfl;clear t2 t2' t3 g2 g3 r2 r3 bA;go_wp2_with fail;exact bodyPost_ret (v:=.tuple #[.agg #[.int .u64 (hw 0 (iA l (pn*c) pd l.length 0 0).1),.int .u64 (hw 1 (iA l (pn*c) pd l.length 0 0).1),.int .u64 (hw 2 (iA l (pn*c) pd l.length 0 0).1),.int .u64 (hw 3 (iA l (pn*c) pd l.length 0 0).1),.int .u64 (hw 4 (iA l (pn*c) pd l.length 0 0).1),.int .u64 (hw 5 (iA l (pn*c) pd l.length 0 0).1)],.agg #[.int .u64 (hw 0 (iA l (pn*c) pd l.length 0 0).2),.int .u64 (hw 1 (iA l (pn*c) pd l.length 0 0).2),.int .u64 (hw 2 (iA l (pn*c) pd l.length 0 0).2),.int .u64 (hw 3 (iA l (pn*c) pd l.length 0 0).2),.int .u64 (hw 4 (iA l (pn*c) pd l.length 0 0).2),.int .u64 (hw 5 (iA l (pn*c) pd l.length 0 0).2)]]) (by simp [results,Tryz.results41,go_sem,x0,y0,x1,y1,x2,y2,x3,y3,x4,y4,x5,y5]) rfl ⟨rfl,gu.out⟩
theorem way_all (aK low aD aA ay ak:Int) (aI rel:Bool) (ao:Option Addr) (cap:Nat) (l:List Stp) (aL count clock c pn pd pk:Int) (w:World) (hf:1≤aK∧aK≤7) (hs:eH w.heap.size w ao l) (hl:l.length≤50) (hall:l.all fV=true) (hc:0≤aA∧aA≤3600000)
  (hcc:aA+dh l=c) (c0:1≤c) (c1:c≤3600000) (n0:1≤count) (n1:count≤400) (i0:0≤aL) (i1:aL≤400) (k0:0≤clock) (k1:clock≤36360000000) (s0:-10000≤ak) (s1:ak≤10000) (hwd0:0≤ay) (Qm:ay≤1000)
  (hpn:AA aI (mE c ak aL count clock) (j6 c count)=pn) (nQ:j6 c count=pd) (hpk:mE c ak aL count clock / j6 c count=pk) :
  Calls Tryz.prog 41 #[.agg #[.int .i64 aK,.int .i64 low,.int .i64 aD,.int .i64 aA,.int .i64 ay,.int .i64 ak,.bool aI,.bool rel,.slice ao l.length cap],.int .i64 aL,.int .i64 count,.int .i64 clock] w fun e w'=>e=.returned (.tuple #[.agg #[.int .u64 (hw 0 (oK aK ay l c pn pd pk aL).1),.int .u64 (hw 1 (oK aK ay l c pn pd pk aL).1),.int .u64 (hw 2 (oK aK ay l c pn pd pk aL).1),.int .u64 (hw 3 (oK aK ay l c pn pd pk aL).1),.int .u64 (hw 4 (oK aK ay l c pn pd pk aL).1),.int .u64 (hw 5 (oK aK ay l c pn pd pk aL).1)],.agg #[.int .u64 (hw 0 (oK aK ay l c pn pd pk aL).2),.int .u64 (hw 1 (oK aK ay l c pn pd pk aL).2),.int .u64 (hw 2 (oK aK ay l c pn pd pk aL).2),.int .u64 (hw 3 (oK aK ay l c pn pd pk aL).2),.int .u64 (hw 4 (oK aK ay l c pn pd pk aL).2),.int .u64 (hw 5 (oK aK ay l c pn pd pk aL).2)]])∧Below w.heap.size w w':=by
 have h7:aK=1∨aK=2∨aK=3∨aK=4∨aK=5∨aK=6∨aK=7:=by omega
 rcases h7 with rfl | rfl | rfl | rfl | rfl | rfl | rfl
 ·exact way_1 low aD aA ay ak aI rel ao cap l aL count clock c pn pd pk w hs hl hall hc hcc c0 c1 n0 n1 i0 i1 k0 k1 s0 s1 hpn nQ hpk
 ·exact way_2 low aD aA ay ak aI rel ao cap l aL count clock c pn pd pk w hs hl hall hc hcc c0 c1 n0 n1 i0 i1 k0 k1 s0 s1 hpn nQ hpk
 ·exact way_3 low aD aA ay ak aI rel ao cap l aL count clock c pn pd pk w hs hl hall hc hcc c0 c1 n0 n1 i0 i1 k0 k1 s0 s1 hpn nQ hpk
 ·exact way_4 low aD aA ay ak aI rel ao cap l aL count clock c pn pd pk w hs hl hall hc hcc c0 c1 n0 n1 i0 i1 k0 k1 s0 s1 hwd0 Qm hpn nQ hpk
 ·exact way_5 low aD aA ay ak aI rel ao cap l aL count clock c pn pd pk w hs hl hall hc hcc c0 c1 n0 n1 i0 i1 k0 k1 s0 s1 hpn nQ hpk
 ·exact way_6 low aD aA ay ak aI rel ao cap l aL count clock c pn pd pk w hs hl hall hc hcc c0 c1 n0 n1 i0 i1 k0 k1 s0 s1 hpn nQ hpk
 ·exact way_7 low aD aA ay ak aI rel ao cap l aL count clock c pn pd pk w hs hl hall hc hcc c0 c1 n0 n1 i0 i1 k0 k1 s0 s1 hpn nQ hpk
theorem Cw {aK low aD aA ay ak:Int} {l:List Stp} (h:dL aK low aD aA ay ak l=0):(1≤aA+dh l∧aA+dh l≤3600000)∧(aK=7→0<l.length):=by
 have hz:=xH h;have f1:bW aK 1 7=true:=by simpa [bW] using hz.1
 by_cases f7:aK=7
 ·subst f7;simp only [dL,eT] at h;rw [f1] at h;simp only [Bool.not_true,Bool.false_eq_true,if_false,beq_self_eq_true,Bool.true_and,Bool.not_false,Bool.false_and,Bool.or_false] at h;split at h
  ·omega
  split at h
  ·omega
  split at h
  ·omega
  split at h
  ·omega
  rename_i h4
  split at h
  ·omega
  split at h
  ·omega
  split at h
  ·rename_i h7
   refine ⟨of_decide_eq_true h7,fun _=>?_⟩;simp at h4;exact List.length_pos_iff.2 h4
  ·omega
 ·have hl:=hz.2.2.2.2.2.2.2.2.2.1 f7;have hn:l=[]:=List.length_eq_zero_iff.1 hl;have g7:(aK==7)=false:=by simpa using f7
  refine ⟨?_,fun h=>absurd h f7⟩;subst hn;simp only [dL,eT] at h;rw [f1,g7] at h;simp only [Bool.not_true,Bool.false_eq_true,if_false,Bool.false_and,Bool.or_false,Bool.not_false,Bool.true_and] at h;split at h
  ·omega
  split at h
  ·omega
  split at h
  ·omega
  ·rename_i h3
   simp [bW] at h3;simp only [dh];omega
end Go.Proofs.YtopmdeefcjdadaaGreat
