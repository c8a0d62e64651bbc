/- texts: BW1 BW3 BW4 BW5 W5q. -/
import Derived.Test.YtffbilcjhlncfaaGreatDoorDQS17
namespace Go.Proofs.YtffbilcjhlncfaaGreatDoor
set_option maxHeartbeats 8000000
set_option linter.all false
section
open Go.RowKit Go.Shelf
attribute [local go_sem] Ext.cell Ext.frozen
theorem TK (a b c x y z:Int) (w:World) (ha: -384≤a∧a≤384) (hb: -384≤b∧b≤384) (hc: -384≤c∧c≤384) (hx: -384≤x∧x≤384) (hy: -384≤y∧y≤384) (hz: -384≤z∧z≤384):
  Calls Tryz.prog 186 #[V3 a b c,V3 x y z] w (Ret w (V3 (b*z-c*y) (c*x-a*z) (a*y-b*x))):=by
 have h1:=aJ hb.1 hb.2 hz.1 hz.2
 have h2:=aJ hc.1 hc.2 hy.1 hy.2
 have h3:=aJ hc.1 hc.2 hx.1 hx.2
 have h4:=aJ ha.1 ha.2 hz.1 hz.2
 have h5:=aJ ha.1 ha.2 hy.1 hy.2
 have h6:=aJ hb.1 hb.2 hx.1 hx.2
 clear ha hb hc hx hy hz
 simp only[Int.reduceMul,Int.reduceNeg]at h1 h2 h3 h4 h5 h6
 go_enter Tryz.func186,Tryz.ntmps186
 go_wp2
 refine bodyPost_ret (v:=V3 (b*z-c*y) (c*x-a*z) (a*y-b*x)) (by simp[results,Tryz.results186,go_sem]) rfl ⟨rfl, ?_⟩
 exact bel
theorem St (a b c x y z:Int) (w:World) (ha: -384≤a∧a≤384) (hb: -384≤b∧b≤384) (hc: -384≤c∧c≤384) (hx: -294912≤x∧x≤294912) (hy: -294912≤y∧y≤294912) (hz: -294912≤z∧z≤294912):
  Calls Tryz.prog 112 #[V3 a b c,V3 x y z] w (Ret w (.int .i64 (a*x+b*y+c*z))):=by
 have h1:=aJ ha.1 ha.2 hx.1 hx.2
 have h2:=aJ hb.1 hb.2 hy.1 hy.2
 have h3:=aJ hc.1 hc.2 hz.1 hz.2
 clear ha hb hc hx hy hz
 simp only[Int.reduceMul,Int.reduceNeg]at h1 h2 h3
 go_enter Tryz.func112,Tryz.ntmps112
 go_wp2
 go_ret
 exact⟨rfl,bel⟩
set_option maxRecDepth 100000 in
theorem Sy (a b c d:Int) (w:World) (ha: -500000000≤a∧a≤500000000) (hb: -500000000≤b∧b≤500000000) (hc: -500000000≤c∧c≤500000000) (hd: -500000000≤d∧d≤500000000) (h0:a≠0∨b≠0∨c≠0):
  Calls Tryz.prog 189 #[V4 a b c d] w (Ret w (V4 (dG (a,b,c,d)).1 (dG (a,b,c,d)).2.1 (dG (a,b,c,d)).2.2.1 (dG (a,b,c,d)).2.2.2)):=by
 have hp:=FJ a b c d h0
 have hle:=jl 10000000000 a b c d (by omega) (by omega) (by omega) (by omega)
 have e1:=YJ (bH (aY [a,b,c,d] a (by simp)))
 have e2:=YJ (bH (aY [a,b,c,d] b (by simp)))
 have e3:=YJ (bH (aY [a,b,c,d] c (by simp)))
 have e4:=YJ (bH (aY [a,b,c,d] d (by simp)))
 have Hp:Hid (dG (a,b,c,d)=(a / aU [a,b,c,d],b / aU [a,b,c,d],c / aU [a,b,c,d],d / aU [a,b,c,d])):=YJ rfl
 have t1:=bZ (g:=aU [a,b,c,d]) ha
 have t2:=bZ (g:=aU [a,b,c,d]) hb
 have t3:=bZ (g:=aU [a,b,c,d]) hc
 have t4:=bZ (g:=aU [a,b,c,d]) hd
 have l1:Nat.gcd a.natAbs b.natAbs≤500000000:=lH (by omega) (by omega)
 have l2:Nat.gcd c.natAbs d.natAbs≤500000000:=lH (by omega) (by omega)
 have HG:Hid (Nat.gcd (Nat.gcd a.natAbs b.natAbs) (Nat.gcd c.natAbs d.natAbs)=aU [a,b,c,d]):=YJ (by simpa using KP a b c d)
 generalize dG (a,b,c,d)=r at*
 generalize aU [a,b,c,d]=g at*
 go_enter Tryz.func189,Tryz.ntmps189
 go_wp2
 refine wqb ?_
 repeat(first|go_big_quiet_step ((go_at_call 188;exact aE (jF _ _ _ (by omega) (by omega))))|quiet_step ((go_at_call 188;exact aE (jF _ _ _ (by omega) (by omega)))))
 refine wqn fun u=> ?_
 simp only[Int.natAbs_natCast]
 rw[HG.out]
 have hw1:Below w.heap.size w u.val:=fB bel u.below
 have HA:=YJ ((u.below.block w.heap.size (by simp;omega)).trans ((aB (by simp)).trans (ai rfl)))
 have HB:=YJ ((u.below.block (w.heap.size+1) (by simp)).trans (ai (by simp)))
 generalize u.val=w1 at*
 clear u
 have c0:=(bq HA.out 0).trans rfl
 have c1:=(bq HA.out 1).trans rfl
 have c2:=(bq HA.out 2).trans rfl
 have c3:=(bq HA.out 3).trans rfl
 have d0:=(bq HB.out 0).trans rfl
 have d1:=(bq HB.out 1).trans rfl
 have d2:=(bq HB.out 2).trans rfl
 have d3:=(bq HB.out 3).trans rfl
 simp only[qdp,qdq,qdr]at c0 c1 c2 c3 d0 d1 d2 d3
 have f0:=aC HB.out
 have z0:=ah HA.out
 have z1:=ah HB.out
 go_wp2
 refine aQ 17 (by kernel_rfl) (by kernel_rfl) ?_
 simp only[qdv,qdu,qdw,qdy]
 repeat(first|go_big_quiet_step (fail)|quiet_step (fail))
 refine wpQuiet_nil ?_
 rintro _ ⟨u,rfl⟩
 go_wp2
 refine bodyPost_ret (v:=V4 (a.tdiv g) (b.tdiv g) (c.tdiv g) (d.tdiv g)) (by simp[results,Tryz.results189,go_sem,z1,d0,d1,d2,d3]) rfl ⟨?_, ?_⟩
 ·rw[Hp.out,e1.out,e2.out,e3.out,e4.out]
 ·exact bel
theorem SK (a b c d x y z q:Int) (w:World) (ha: -384≤a∧a≤384) (hb: -384≤b∧b≤384) (hc: -384≤c∧c≤384) (hd: -480000000≤d∧d≤480000000)
  (hx: -500000000000000≤x∧x≤500000000000000) (hy: -500000000000000≤y∧y≤500000000000000) (hz: -500000000000000≤z∧z≤500000000000000) (hq: -400000000≤q∧q≤400000000):
  Calls Tryz.prog 140 #[.agg #[.int .i64 a, .int .i64 b, .int .i64 c, .int .i64 d], .agg #[.int .i64 x, .int .i64 y, .int .i64 z, .int .i64 q]] w (Ret w (.int .i64 (sgn (a*x+b*y+c*z) (d*q)))):=by
 have h1:=aJ ha.1 ha.2 hx.1 hx.2
 have h2:=aJ hb.1 hb.2 hy.1 hy.2
 have h3:=aJ hc.1 hc.2 hz.1 hz.2
 have h4:=aJ hd.1 hd.2 hq.1 hq.2
 clear ha hb hc hd hx hy hz hq
 simp only[Int.reduceMul,Int.reduceNeg]at h1 h2 h3 h4
 go_enter Tryz.func140,Tryz.ntmps140
 go_wp2
 refine wqf fun u=> ?_
 go_wp2
 all_goals go_ret
 ·exact⟨aK (ux (by assumption)).symm,fB ((brf).alloc (qaA _) _ |>.alloc (by simp) _) u.below⟩
 ·exact⟨aK (uy (by assumption)).symm,fB ((brf).alloc (qaA _) _ |>.alloc (by simp) _) u.below⟩
 ·exact⟨aK (LK (by omega) (by omega)).symm,fB ((brf).alloc (qaA _) _ |>.alloc (by simp) _) u.below⟩
theorem SE (p c:Q4) (w:World) (hp:okW p) (hc:okX c):Calls Tryz.prog 140 #[v4 p,v4 c] w (Ret w (.int .i64 (sd p c))):=
 SK _ _ _ _ _ _ _ _ w hp.1 hp.2.1 hp.2.2.1 hp.2.2.2 hc.1 hc.2.1 hc.2.2.1 (by have:=hc.2.2.2;omega)
end
section
open Go.RowKit Go.Shelf
set_option maxRecDepth 100000
attribute [local go_sem] Ext.cell Ext.frozen
theorem qfU (p q r:Q4) (w:World) (hp:okW p) (hq:okW q) (hr:okW r):
  Calls Tryz.prog 137 #[v4 p,v4 q,v4 r] w (Ret w (.tuple #[v4 (if bN p q r=0 then(0,0,0,0)else TB p q r (bN p q r)), .bool (bN p q r !=0)])):=by
 have Hzz:Hid (bN p q r=0→(if bN p q r=0 then((0,0,0,0):Q4)else TB p q r (bN p q r))=(0,0,0,0)∧(bN p q r !=0)=false):=YJ (fun h=>⟨if_pos h,by simpa using h⟩)
 have Hss:Hid (bN p q r≠0→(if bN p q r=0 then((0,0,0,0):Q4)else TB p q r (bN p q r))=TB p q r (bN p q r)∧(bN p q r !=0)=true):=YJ (fun h=>⟨if_neg h,by simpa using h⟩)
 generalize(if bN p q r=0 then((0,0,0,0):Q4)else TB p q r (bN p q r))=rp at*
 generalize(bN p q r !=0)=okk at*
 have He:=vA p q r
 have hdb:=Gz p q r hp hq hr
 generalize bN p q r=den at*
 obtain⟨p0,p1,p2,pd⟩:=p
 obtain⟨q0,q1,q2,qd⟩:=q
 obtain⟨r0,r1,r2,rd⟩:=r
 simp only[okW]at hp hq hr
 simp only at He
 have Hm:Hid (TB (p0,p1,p2,pd) (q0,q1,q2,qd) (r0,r1,r2,rd) den=eu (pd*(q1*r2-q2*r1)+qd*(r1*p2-r2*p1)+rd*(p1*q2-p2*q1)) (pd*(q2*r0-q0*r2)+qd*(r2*p0-r0*p2)+rd*(p2*q0-p0*q2)) (pd*(q0*r1-q1*r0)+qd*(r0*p1-r1*p0)+rd*(p0*q1-p1*q0)) den):=YJ rfl
 have b0:=ak hq.2.1 hq.2.2.1 hr.2.1 hr.2.2.1
 have b1:=ak hq.2.2.1 hq.1 hr.2.2.1 hr.1
 have b2:=ak hq.1 hq.2.1 hr.1 hr.2.1
 have b3:=ak hr.2.1 hr.2.2.1 hp.2.1 hp.2.2.1
 have b4:=ak hr.2.2.1 hr.1 hp.2.2.1 hp.1
 have b5:=ak hr.1 hr.2.1 hp.1 hp.2.1
 have b6:=ak hp.2.1 hp.2.2.1 hq.2.1 hq.2.2.1
 have b7:=ak hp.2.2.1 hp.1 hq.2.2.1 hq.1
 have b8:=ak hp.1 hp.2.1 hq.1 hq.2.1
 have hC:=fun W'=>YJ (TK q0 q1 q2 r0 r1 r2 W' (by omega) (by omega) (by omega) (by omega) (by omega) (by omega))
 have hC2:=fun W'=>YJ (TK r0 r1 r2 p0 p1 p2 W' (by omega) (by omega) (by omega) (by omega) (by omega) (by omega))
 have hC3:=fun W'=>YJ (TK p0 p1 p2 q0 q1 q2 W' (by omega) (by omega) (by omega) (by omega) (by omega) (by omega))
 have hD:=fun W'=>YJ (St p0 p1 p2 (q1*r2-q2*r1) (q2*r0-q0*r2) (q0*r1-q1*r0) W' (by omega) (by omega) (by omega) b0 b1 b2)
 rw[He]at hD
 clear He
 generalize TB (p0,p1,p2,pd) (q0,q1,q2,qd) (r0,r1,r2,rd) den=res at*
 generalize q1*r2-q2*r1=n0 at*
 generalize q2*r0-q0*r2=n1 at*
 generalize q0*r1-q1*r0=n2 at*
 generalize r1*p2-r2*p1=n3 at*
 generalize r2*p0-r0*p2=n4 at*
 generalize r0*p1-r1*p0=n5 at*
 generalize p1*q2-p2*q1=n6 at*
 generalize p2*q0-p0*q2=n7 at*
 generalize p0*q1-p1*q0=n8 at*
 have D0: -141557760000000≤pd*n0∧pd*n0≤141557760000000:=aJ hp.2.2.2.1 hp.2.2.2.2 b0.1 b0.2
 have D1: -141557760000000≤pd*n1∧pd*n1≤141557760000000:=aJ hp.2.2.2.1 hp.2.2.2.2 b1.1 b1.2
 have D2: -141557760000000≤pd*n2∧pd*n2≤141557760000000:=aJ hp.2.2.2.1 hp.2.2.2.2 b2.1 b2.2
 have D3: -141557760000000≤qd*n3∧qd*n3≤141557760000000:=aJ hq.2.2.2.1 hq.2.2.2.2 b3.1 b3.2
 have D4: -141557760000000≤qd*n4∧qd*n4≤141557760000000:=aJ hq.2.2.2.1 hq.2.2.2.2 b4.1 b4.2
 have D5: -141557760000000≤qd*n5∧qd*n5≤141557760000000:=aJ hq.2.2.2.1 hq.2.2.2.2 b5.1 b5.2
 have D6: -141557760000000≤rd*n6∧rd*n6≤141557760000000:=aJ hr.2.2.2.1 hr.2.2.2.2 b6.1 b6.2
 have D7: -141557760000000≤rd*n7∧rd*n7≤141557760000000:=aJ hr.2.2.2.1 hr.2.2.2.2 b7.1 b7.2
 have D8: -141557760000000≤rd*n8∧rd*n8≤141557760000000:=aJ hr.2.2.2.1 hr.2.2.2.2 b8.1 b8.2
 clear b0 b1 b2 b3 b4 b5 b6 b7 b8 hp hq hr
 obtain⟨V,HV⟩:∃V,Hid ((((w.alloc (.cells #[.int .i64 p0, .int .i64 p1, .int .i64 p2, .int .i64 pd] 190)).alloc (.cells #[.int .i64 q0, .int .i64 q1, .int .i64 q2, .int .i64 qd] 190)).alloc (.cells #[.int .i64 r0, .int .i64 r1, .int .i64 r2, .int .i64 rd] 190)).alloc (.cells #[.int .i64 0, .int .i64 0, .int .i64 0, .int .i64 0] 186)=V):=⟨_,YJ rfl⟩
 have hV:Below w.heap.size w V:=by rw[←HV.out];exact bel
 have BP:Hid (V.heap[w.heap.size]? =some (.cells #[.int .i64 p0, .int .i64 p1, .int .i64 p2, .int .i64 pd] 190 (0,0))):=YJ (by rw[←HV.out];exact(aB (by simp<;>omega)).trans ((aB (by simp<;>omega)).trans ((aB (by simp)).trans (ai rfl))))
 have BQ:Hid (V.heap[w.heap.size+1]? =some (.cells #[.int .i64 q0, .int .i64 q1, .int .i64 q2, .int .i64 qd] 190 (0,0))):=YJ (by rw[←HV.out];exact(aB (by simp<;>omega)).trans ((aB (by simp)).trans (ai (by simp))))
 have BR:Hid (V.heap[w.heap.size+1+1]? =some (.cells #[.int .i64 r0, .int .i64 r1, .int .i64 r2, .int .i64 rd] 190 (0,0))):=YJ (by rw[←HV.out];exact(aB (by simp)).trans (ai (by simp)))
 have BO:Hid (V.heap[w.heap.size+1+1+1]? =some (.cells #[.int .i64 0, .int .i64 0, .int .i64 0, .int .i64 0] 186 (0,0))):=YJ (by rw[←HV.out];exact ai (by simp))
 go_enter Tryz.func137,Tryz.ntmps137
 go_wp2
 rw[HV.out]
 clear HV
 have xp0:=(bq BP.out 0).trans rfl
 have xp1:=(bq BP.out 1).trans rfl
 have xp2:=(bq BP.out 2).trans rfl
 have xp3:=(bq BP.out 3).trans rfl
 simp only[qdp,qdq,qdr]at xp0 xp1 xp2 xp3
 have xpz:=ah BP.out
 have xpf:=aC BP.out
 have xq0:=(bq BQ.out 0).trans rfl
 have xq1:=(bq BQ.out 1).trans rfl
 have xq2:=(bq BQ.out 2).trans rfl
 have xq3:=(bq BQ.out 3).trans rfl
 simp only[qdp,qdq,qdr]at xq0 xq1 xq2 xq3
 have xqz:=ah BQ.out
 have xqf:=aC BQ.out
 have xr0:=(bq BR.out 0).trans rfl
 have xr1:=(bq BR.out 1).trans rfl
 have xr2:=(bq BR.out 2).trans rfl
 have xr3:=(bq BR.out 3).trans rfl
 simp only[qdp,qdq,qdr]at xr0 xr1 xr2 xr3
 have xrz:=ah BR.out
 have xrf:=aC BR.out
 refine ow [0,1,2,3,4,5,6,7,8] 9 [10,11] (pick [IsV (V4 p0 p1 p2 pd),IsV (V3 p0 p1 p2),IsV (V4 q0 q1 q2 qd),IsV (V3 q0 q1 q2),IsV (V4 r0 r1 r2 rd),IsV (V3 r0 r1 r2),yd V.heap.size 37 #[.int .i64 0, .int .i64 0, .int .i64 0],yd V.heap.size 37 #[.int .i64 0, .int .i64 0, .int .i64 0],yd V.heap.size 37 #[.int .i64 0, .int .i64 0, .int .i64 0]]) (tA [6,7,8]) (xG [6,7,8]) (kq (by simp only[alsk,List.not_mem_nil,or_false,forall_eq_or_imp,forall_eq];exact⟨jG,jG,jG⟩)) (by kernel_rfl) (by kernel_rfl) (Stabs.pick (by repeat(first|exact Stabs.nil|refine Stabs.cons (by first|exact TC _|exact ar _ _ _) ?_))) ?_
 try go_frame
 refine fW rfl rfl (by simp) (fun w' hb' hR K hK=> ?_) (fun o0=> ?_)
 ·clear hR
  have y0:=ab hb' xp0
  have y1:=ab hb' xp1
  have y2:=ab hb' xp2
  have y3:=ab hb' xp3
  have yz:=qaG xpz hb'.size
  go_simp
  exact hK _ _ brf rfl
 try go_frame
 refine fW rfl rfl (by simp) (fun w' hb' hR K hK=> ?_) (fun o1=> ?_)
 ·obtain rfl:o0=V4 p0 p1 p2 pd:=hR 0 (by kernel_rfl)
  clear hR
  go_simp
  refine(NN p0 p1 p2 pd _).mono ?_
  rintro e w1 ⟨rfl,hb1⟩
  exact hK _ _ hb1 rfl
 try go_frame
 refine fW rfl rfl (by simp) (fun w' hb' hR K hK=> ?_) (fun o2=> ?_)
 ·clear hR
  have y0:=ab hb' xq0
  have y1:=ab hb' xq1
  have y2:=ab hb' xq2
  have y3:=ab hb' xq3
  have yz:=qaG xqz hb'.size
  go_simp
  exact hK _ _ brf rfl
 try go_frame
 refine fW rfl rfl (by simp) (fun w' hb' hR K hK=> ?_) (fun o3=> ?_)
 ·obtain rfl:o2=V4 q0 q1 q2 qd:=hR 2 (by kernel_rfl)
  clear hR
  go_simp
  refine(NN q0 q1 q2 qd _).mono ?_
  rintro e w1 ⟨rfl,hb1⟩
  exact hK _ _ hb1 rfl
 try go_frame
 refine fW rfl rfl (by simp) (fun w' hb' hR K hK=> ?_) (fun o4=> ?_)
 ·clear hR
  have y0:=ab hb' xr0
  have y1:=ab hb' xr1
  have y2:=ab hb' xr2
  have y3:=ab hb' xr3
  have yz:=qaG xrz hb'.size
  go_simp
  exact hK _ _ brf rfl
 try go_frame
 refine fW rfl rfl (by simp) (fun w' hb' hR K hK=> ?_) (fun o5=> ?_)
 ·obtain rfl:o4=V4 r0 r1 r2 rd:=hR 4 (by kernel_rfl)
  clear hR
  go_simp
  refine(NN r0 r1 r2 rd _).mono ?_
  rintro e w1 ⟨rfl,hb1⟩
  exact hK _ _ hb1 rfl
 try go_frame
 refine wgf rfl rfl (by simp) (fun w' hb' hR K hK=> ?_) (fun o6=> ?_)
 ·clear hR
  have zz:=hb'.size
  go_simp
  exact hK _ _ bel ⟨_,rfl,zz,ai rfl⟩ (fun _=>rfl)
 try go_frame
 refine wgf rfl rfl (by simp) (fun w' hb' hR K hK=> ?_) (fun o7=> ?_)
 ·clear hR
  have zz:=hb'.size
  go_simp
  exact hK _ _ bel ⟨_,rfl,zz,ai rfl⟩ (fun _=>rfl)
 try go_frame
 refine wgf rfl rfl (by simp) (fun w' hb' hR K hK=> ?_) (fun o8=> ?_)
 ·clear hR
  have zz:=hb'.size
  go_simp
  exact hK _ _ bel ⟨_,rfl,zz,ai rfl⟩ (fun _=>rfl)
 try go_frame
 refine BV (fun w' hb' hR hS=> ?_)
 obtain rfl:o1=V3 p0 p1 p2:=hR 1 (by simp)
 obtain rfl:o3=V3 q0 q1 q2:=hR 3 (by simp)
 obtain rfl:o5=V3 r0 r1 r2:=hR 5 (by simp)
 obtain⟨ga,rfl,hga,hA⟩:yd V.heap.size 37 #[.int .i64 0, .int .i64 0, .int .i64 0] o6 w':=hR 6 (by simp)
 obtain⟨gb,rfl,hgb,hB⟩:yd V.heap.size 37 #[.int .i64 0, .int .i64 0, .int .i64 0] o7 w':=hR 7 (by simp)
 obtain⟨gc,rfl,hgc,hC'⟩:yd V.heap.size 37 #[.int .i64 0, .int .i64 0, .int .i64 0] o8 w':=hR 8 (by simp)
 have nab:ga≠gb:=fun e=>hS 6 (by simp) 7 (by simp) (by decide) (by decide) (by decide) (by rw[e];rfl)
 have nac:ga≠gc:=fun e=>hS 6 (by simp) 8 (by simp) (by decide) (by decide) (by decide) (by rw[e];rfl)
 have nbc:gb≠gc:=fun e=>hS 7 (by simp) 8 (by simp) (by decide) (by decide) (by decide) (by rw[e];rfl)
 have HA:=YJ hA
 have HB:=YJ hB
 have HC:=YJ hC'
 clear hR hS hA hB hC' xp0 xp1 xp2 xp3 xpz xpf xq0 xq1 xq2 xq3 xqz xqf xr0 xr1 xr2 xr3 xrz xrf
 obtain⟨a0,a1,a2,af,az⟩:=NO HA.out
 obtain⟨b0',b1',b2',bf,bz⟩:=NO HB.out
 obtain⟨c0,c1,c2,cf,cz⟩:=NO HC.out
 obtain⟨X,eX,hVX,hXs,XA,XB,XC⟩:=qgs hb' hga hgb hgc HA.out HB.out HC.out nab nac nbc (.int .i64 p0) (.int .i64 p1) (.int .i64 p2) (.int .i64 q0) (.int .i64 q1) (.int .i64 q2) (.int .i64 r0) (.int .i64 r1) (.int .i64 r2)
 have zV:=ah BO.out
 have HPB:Hid (PB w.heap.size ga gb gc p0 p1 p2 pd q0 q1 q2 qd r0 r1 r2 rd X):=YJ ⟨(hVX.block _ (ah BP.out)).trans BP.out,(hVX.block _ (ah BQ.out)).trans BQ.out,(hVX.block _ (ah BR.out)).trans BR.out,(hVX.block _ (ah BO.out)).trans BO.out,XA,XB,XC⟩
 simp only[oas]
 go_wp2
 refine NoPanic.normal ?_
 try rw[eX]
 clear eX hXs XA XB XC HA HB HC a0 a1 a2 af az b0' b1' b2' bf bz c0 c1 c2 cf cz BP BQ BR BO nab nac nbc hb'
 obtain⟨a0,a1,a2,_,az⟩:=NO HPB.out.A
 obtain⟨b0',b1',b2',_,bz⟩:=NO HPB.out.B
 obtain⟨c0,c1,c2,_,cz⟩:=NO HPB.out.C
 go_wp2
 refine wqb ?_
 repeat(first|go_big_quiet_step ((first|(go_at_call 186;exact aE ((hC _).out))|(go_at_call 112;exact aE ((hD _).out))))|quiet_step ((first|(go_at_call 186;exact aE ((hC _).out))|(go_at_call 112;exact aE ((hD _).out)))))
 refine wqn fun u=> ?_
 have HU:=YJ (HPB.out.below u.below)
 have hVu:Below V.heap.size V u.val:=fB hVX u.below
 clear HPB hVX a0 a1 a2 az b0' b1' b2' bz c0 c1 c2 cz
 generalize u.val=X1 at*
 clear u
 by_cases h0:den=0
 ·subst h0
  obtain⟨rfl,rfl⟩:=Hzz.out rfl
  have BO3:=YJ HU.out.O
  have hw:Below w.heap.size w X1:=fB hV hVu
  have o0:=(bq BO3.out 0).trans rfl
  have o1:=(bq BO3.out 1).trans rfl
  have o2:=(bq BO3.out 2).trans rfl
  have o3:=(bq BO3.out 3).trans rfl
  simp only[qdp,qdq,qdr]at o0 o1 o2 o3
  have oz:=ah BO3.out
  have of:=aC BO3.out
  go_wp2
  refine bodyPost_ret (v:= .tuple #[v4 (0,0,0,0), .bool false]) (by simp[results,Tryz.results137,go_sem,o0,o1,o2,o3,oz]) rfl ⟨rfl, ?_⟩
  exact qga (qga (qga (qga hw (by dsimp only;omega) _) (by dsimp only;omega) _) (by dsimp only;omega) _) (by dsimp only;omega) _
 have hne:(den==0)=false:=by simpa using h0
 obtain⟨rfl,rfl⟩:=Hss.out h0
 obtain⟨a0,a1,a2,_,az⟩:=NO HU.out.A
 obtain⟨b0',b1',b2',_,bz⟩:=NO HU.out.B
 obtain⟨c0,c1,c2,_,cz⟩:=NO HU.out.C
 go_wp2
 refine ow [0,1,2,3,4,5,6,7,8,9,10,11] 12 [13,14] (pick [IsV (V3 q0 q1 q2),IsV (V3 r0 r1 r2),IsV (V3 n0 n1 n2),IsV (V3 r0 r1 r2),IsV (V3 p0 p1 p2),IsV (V3 n3 n4 n5),IsV (V3 p0 p1 p2),IsV (V3 q0 q1 q2),IsV (V3 n6 n7 n8),yd X1.heap.size 37 #[.int .i64 0, .int .i64 0, .int .i64 0],yd X1.heap.size 37 #[.int .i64 0, .int .i64 0, .int .i64 0],yd X1.heap.size 37 #[.int .i64 0, .int .i64 0, .int .i64 0]]) (tA [9,10,11]) (xG [9,10,11]) (kq (by simp only[alsk,List.not_mem_nil,or_false,forall_eq_or_imp,forall_eq];exact⟨jG,jG,jG⟩)) (by kernel_rfl) (by kernel_rfl) (Stabs.pick (by repeat(first|exact Stabs.nil|refine Stabs.cons (by first|exact TC _|exact ar _ _ _) ?_))) ?_
 try go_frame
 refine fW rfl rfl (by simp) (fun w' hb' hR K hK=> ?_) (fun o0=> ?_)
 ·clear hR
  have y0:=ab hb' b0'
  have y1:=ab hb' b1'
  have y2:=ab hb' b2'
  have yz:=qaG bz hb'.size
  go_simp
  exact hK _ _ brf rfl
 try go_frame
 refine fW rfl rfl (by simp) (fun w' hb' hR K hK=> ?_) (fun o1=> ?_)
 ·clear hR
  have y0:=ab hb' c0
  have y1:=ab hb' c1
  have y2:=ab hb' c2
  have yz:=qaG cz hb'.size
  go_simp
  exact hK _ _ brf rfl
 try go_frame
 refine fW rfl rfl (by simp) (fun w' hb' hR K hK=> ?_) (fun o2=> ?_)
 ·obtain rfl:o0=V3 q0 q1 q2:=hR 0 (by kernel_rfl)
  obtain rfl:o1=V3 r0 r1 r2:=hR 1 (by kernel_rfl)
  clear hR
  go_simp
  refine((hC _).out).mono ?_
  rintro e w1 ⟨rfl,hb1⟩
  exact hK _ _ hb1 rfl
 try go_frame
 refine fW rfl rfl (by simp) (fun w' hb' hR K hK=> ?_) (fun o3=> ?_)
 ·clear hR
  have y0:=ab hb' c0
  have y1:=ab hb' c1
  have y2:=ab hb' c2
  have yz:=qaG cz hb'.size
  go_simp
  exact hK _ _ brf rfl
 try go_frame
 refine fW rfl rfl (by simp) (fun w' hb' hR K hK=> ?_) (fun o4=> ?_)
 ·clear hR
  have y0:=ab hb' a0
  have y1:=ab hb' a1
  have y2:=ab hb' a2
  have yz:=qaG az hb'.size
  go_simp
  exact hK _ _ brf rfl
 try go_frame
 refine fW rfl rfl (by simp) (fun w' hb' hR K hK=> ?_) (fun o5=> ?_)
 ·obtain rfl:o3=V3 r0 r1 r2:=hR 3 (by kernel_rfl)
  obtain rfl:o4=V3 p0 p1 p2:=hR 4 (by kernel_rfl)
  clear hR
  go_simp
  refine((hC2 _).out).mono ?_
  rintro e w1 ⟨rfl,hb1⟩
  exact hK _ _ hb1 rfl
 try go_frame
 refine fW rfl rfl (by simp) (fun w' hb' hR K hK=> ?_) (fun o6=> ?_)
 ·clear hR
  have y0:=ab hb' a0
  have y1:=ab hb' a1
  have y2:=ab hb' a2
  have yz:=qaG az hb'.size
  go_simp
  exact hK _ _ brf rfl
 try go_frame
 refine fW rfl rfl (by simp) (fun w' hb' hR K hK=> ?_) (fun o7=> ?_)
 ·clear hR
  have y0:=ab hb' b0'
  have y1:=ab hb' b1'
  have y2:=ab hb' b2'
  have yz:=qaG bz hb'.size
  go_simp
  exact hK _ _ brf rfl
 try go_frame
 refine fW rfl rfl (by simp) (fun w' hb' hR K hK=> ?_) (fun o8=> ?_)
 ·obtain rfl:o6=V3 p0 p1 p2:=hR 6 (by kernel_rfl)
  obtain rfl:o7=V3 q0 q1 q2:=hR 7 (by kernel_rfl)
  clear hR
  go_simp
  refine((hC3 _).out).mono ?_
  rintro e w1 ⟨rfl,hb1⟩
  exact hK _ _ hb1 rfl
 try go_frame
 refine wgf rfl rfl (by simp) (fun w' hb' hR K hK=> ?_) (fun o9=> ?_)
 ·clear hR
  have zz:=hb'.size
  go_simp
  exact hK _ _ bel ⟨_,rfl,zz,ai rfl⟩ (fun _=>rfl)
 try go_frame
 refine wgf rfl rfl (by simp) (fun w' hb' hR K hK=> ?_) (fun o10=> ?_)
 ·clear hR
  have zz:=hb'.size
  go_simp
  exact hK _ _ bel ⟨_,rfl,zz,ai rfl⟩ (fun _=>rfl)
 try go_frame
 refine wgf rfl rfl (by simp) (fun w' hb' hR K hK=> ?_) (fun o11=> ?_)
 ·clear hR
  have zz:=hb'.size
  go_simp
  exact hK _ _ bel ⟨_,rfl,zz,ai rfl⟩ (fun _=>rfl)
 try go_frame
 refine BV (fun w' hb' hR hS=> ?_)
 obtain rfl:o2=V3 n0 n1 n2:=hR 2 (by simp)
 obtain rfl:o5=V3 n3 n4 n5:=hR 5 (by simp)
 obtain rfl:o8=V3 n6 n7 n8:=hR 8 (by simp)
 obtain⟨gx,rfl,hgx,hA⟩:yd X1.heap.size 37 #[.int .i64 0, .int .i64 0, .int .i64 0] o9 w':=hR 9 (by simp)
 obtain⟨gy,rfl,hgy,hB⟩:yd X1.heap.size 37 #[.int .i64 0, .int .i64 0, .int .i64 0] o10 w':=hR 10 (by simp)
 obtain⟨gz,rfl,hgz,hC'⟩:yd X1.heap.size 37 #[.int .i64 0, .int .i64 0, .int .i64 0] o11 w':=hR 11 (by simp)
 have nab:gx≠gy:=fun e=>hS 9 (by simp) 10 (by simp) (by decide) (by decide) (by decide) (by rw[e];rfl)
 have nac:gx≠gz:=fun e=>hS 9 (by simp) 11 (by simp) (by decide) (by decide) (by decide) (by rw[e];rfl)
 have nbc:gy≠gz:=fun e=>hS 10 (by simp) 11 (by simp) (by decide) (by decide) (by decide) (by rw[e];rfl)
 have HA:=YJ hA
 have HB:=YJ hB
 have HC:=YJ hC'
 clear hR hS hA hB hC' a0 a1 a2 az b0' b1' b2' bz c0 c1 c2 cz hC hC2 hC3 hD
 obtain⟨a0,a1,a2,af,az⟩:=NO HA.out
 obtain⟨b0',b1',b2',bf,bz⟩:=NO HB.out
 obtain⟨c0,c1,c2,cf,cz⟩:=NO HC.out
 obtain⟨X,eX,hVX,hXs,XA,XB,XC⟩:=qgs hb' hgx hgy hgz HA.out HB.out HC.out nab nac nbc (.int .i64 n0) (.int .i64 n1) (.int .i64 n2) (.int .i64 n3) (.int .i64 n4) (.int .i64 n5) (.int .i64 n6) (.int .i64 n7) (.int .i64 n8)
 obtain⟨g,Hg⟩:∃g,Hid (X.heap.size=g):=⟨_,YJ rfl⟩
 have zO:=ah HU.out.O
 have HPX:Hid (PX g w.heap.size gx gy gz p0 p1 p2 pd q0 q1 q2 qd r0 r1 r2 rd n0 n1 n2 n3 n4 n5 n6 n7 n8 X):=YJ ⟨(hVX.block _ (ah HU.out.P)).trans HU.out.P,(hVX.block _ (ah HU.out.Q)).trans HU.out.Q,(hVX.block _ (ah HU.out.R)).trans HU.out.R,(hVX.block _ (ah HU.out.O)).trans HU.out.O,XA,XB,XC,by have:=hVX.size;rw[←Hg.out];omega⟩
 simp only[oas]
 go_wp2
 refine NoPanic.normal ?_
 try rw[eX]
 have hwX:Below w.heap.size w X:=fB hV (fB hVu hVX)
 clear eX XA XB XC HA HB HC a0 a1 a2 af az b0' b1' b2' bf bz c0 c1 c2 cf cz nab nac nbc hb' hVX hVu hV HU hXs zO hgx hgy hgz zV hga hgb hgc
 obtain⟨Y,HY⟩:∃Y,Hid (X.alloc (.cells #[.int .i64 0, .int .i64 0, .int .i64 0] 37)=Y):=⟨_,YJ rfl⟩
 have hXY:Below g X Y:=by rw[←HY.out, ←Hg.out];exact bel
 have HV0:Hid (Y.heap[g]? =some (.cells #[.int .i64 0, .int .i64 0, .int .i64 0] 37 (0,0))):=YJ (by rw[←HY.out, ←Hg.out];exact ai rfl)
 have HPY:=YJ (HPX.out.below hXY)
 have hwY:Below w.heap.size w Y:=fB hwX (by rw[Hg.out];exact hXY)
 go_wp2
 rw[HY.out,Hg.out]
 clear HY hXY HPX hwX Hg
 have zg:w.heap.size≤g:=by have:=HPY.out.lt;omega
 go_loopw [16] (fun x wr=>∃k:Int,0≤k∧k≤3∧x= .int .i64 k∧Below g Y wr∧Hid (wr.heap[g]? =some (.cells #[.int .i64 (if 1≤k then pd*n0+qd*n3+rd*n6 else 0), .int .i64 (if 2≤k then pd*n1+qd*n4+rd*n7 else 0), .int .i64 (if 3≤k then pd*n2+qd*n5+rd*n8 else 0)] 37 (0,0)))) (fun x _=>3-(intOf x).toNat)
 case atStart=>exact⟨0,by omega,by omega,rfl,brf,YJ (by simpa using HV0.out)⟩
 case round=>
  clear HV0
  obtain⟨k,hk0,hk,rfl,hb,HVb⟩:=hrel
  have HX:=YJ (HPY.out.below hb)
  rcases(by omega:k=0∨k=1∨k=2∨k=3)with rfl|rfl|rfl|rfl
  ·simp only[show ¬(1:Int)≤0 by decide,show ¬(2:Int)≤0 by decide,show ¬(3:Int)≤0 by decide,if_false]at HVb
   obtain⟨x0,x1,x2,_,xz⟩:=NO HX.out.A
   obtain⟨y0,y1,y2,_,yz⟩:=NO HX.out.B
   obtain⟨z0,z1,z2,_,zz⟩:=NO HX.out.C
   have pP:=(bq HX.out.P 3).trans rfl
   have pQ:=(bq HX.out.Q 3).trans rfl
   have pR:=(bq HX.out.R 3).trans rfl
   simp only[qdp,qdq,qdr]at pP pQ pR
   have zP:=ah HX.out.P
   have zQ:=ah HX.out.Q
   have zR:=ah HX.out.R
   have vz:=ah HVb.out
   have vf:=aC HVb.out
   go_wp2
   refine aQ 22 (by kernel_rfl) (by kernel_rfl) ?_
   simp only[qdv,qdu,qdw,qdy]
   repeat(first|go_big_quiet_step (fail)|quiet_step (fail))
   refine wpQuiet_nil ?_
   rintro _ ⟨u,rfl⟩
   have HV2:=YJ ((u.below.block _ vz).trans HVb.out)
   have hb2:Below g Y u.val:=hb.trans (u.below.mono (by omega))
   obtain⟨vv0,vv1,vv2,vf2,vz2⟩:=NO HV2.out
   clear vz vf
   go_wp2
   go_roundw
   case rel=>exact⟨1,by omega,by omega,by first|rfl|go_num,hb2.setCell (qaA _) _,YJ (by have:=Tu HV2.out 0 (.int .i64 (pd*n0+qd*n3+rd*n6));simpa using this)⟩
   first|decide|(simp[intOf];done)|(simp[intOf];omega)
  ·simp only[show(1:Int)≤1 by decide,show ¬(2:Int)≤1 by decide,show ¬(3:Int)≤1 by decide,if_false,if_true]at HVb
   obtain⟨x0,x1,x2,_,xz⟩:=NO HX.out.A
   obtain⟨y0,y1,y2,_,yz⟩:=NO HX.out.B
   obtain⟨z0,z1,z2,_,zz⟩:=NO HX.out.C
   have pP:=(bq HX.out.P 3).trans rfl
   have pQ:=(bq HX.out.Q 3).trans rfl
   have pR:=(bq HX.out.R 3).trans rfl
   simp only[qdp,qdq,qdr]at pP pQ pR
   have zP:=ah HX.out.P
   have zQ:=ah HX.out.Q
   have zR:=ah HX.out.R
   have vz:=ah HVb.out
   have vf:=aC HVb.out
   go_wp2
   refine aQ 22 (by kernel_rfl) (by kernel_rfl) ?_
   simp only[qdv,qdu,qdw,qdy]
   repeat(first|go_big_quiet_step (fail)|quiet_step (fail))
   refine wpQuiet_nil ?_
   rintro _ ⟨u,rfl⟩
   have HV2:=YJ ((u.below.block _ vz).trans HVb.out)
   have hb2:Below g Y u.val:=hb.trans (u.below.mono (by omega))
   obtain⟨vv0,vv1,vv2,vf2,vz2⟩:=NO HV2.out
   clear vz vf
   go_wp2
   go_roundw
   case rel=>exact⟨2,by omega,by omega,by first|rfl|go_num,hb2.setCell (qaA _) _,YJ (by have:=Tu HV2.out 1 (.int .i64 (pd*n1+qd*n4+rd*n7));simpa using this)⟩
   first|decide|(simp[intOf];done)|(simp[intOf];omega)
  ·simp only[show(1:Int)≤2 by decide,show(2:Int)≤2 by decide,show ¬(3:Int)≤2 by decide,if_false,if_true]at HVb
   obtain⟨x0,x1,x2,_,xz⟩:=NO HX.out.A
   obtain⟨y0,y1,y2,_,yz⟩:=NO HX.out.B
   obtain⟨z0,z1,z2,_,zz⟩:=NO HX.out.C
   have pP:=(bq HX.out.P 3).trans rfl
   have pQ:=(bq HX.out.Q 3).trans rfl
   have pR:=(bq HX.out.R 3).trans rfl
   simp only[qdp,qdq,qdr]at pP pQ pR
   have zP:=ah HX.out.P
   have zQ:=ah HX.out.Q
   have zR:=ah HX.out.R
   have vz:=ah HVb.out
   have vf:=aC HVb.out
   go_wp2
   refine aQ 22 (by kernel_rfl) (by kernel_rfl) ?_
   simp only[qdv,qdu,qdw,qdy]
   repeat(first|go_big_quiet_step (fail)|quiet_step (fail))
   refine wpQuiet_nil ?_
   rintro _ ⟨u,rfl⟩
   have HV2:=YJ ((u.below.block _ vz).trans HVb.out)
   have hb2:Below g Y u.val:=hb.trans (u.below.mono (by omega))
   obtain⟨vv0,vv1,vv2,vf2,vz2⟩:=NO HV2.out
   clear vz vf
   go_wp2
   go_roundw
   case rel=>exact⟨3,by omega,by omega,by first|rfl|go_num,hb2.setCell (qaA _) _,YJ (by have:=Tu HV2.out 2 (.int .i64 (pd*n2+qd*n5+rd*n8));simpa using this)⟩
   first|decide|(simp[intOf];done)|(simp[intOf];omega)
  ·simp only[show(1:Int)≤3 by decide,show(2:Int)≤3 by decide,show(3:Int)≤3 by decide,if_true]at HVb
   have E0: -500000000000000≤pd*n0+qd*n3+rd*n6∧pd*n0+qd*n3+rd*n6≤500000000000000:=by omega
   have E1: -500000000000000≤pd*n1+qd*n4+rd*n7∧pd*n1+qd*n4+rd*n7≤500000000000000:=by omega
   have E2: -500000000000000≤pd*n2+qd*n5+rd*n8∧pd*n2+qd*n5+rd*n8≤500000000000000:=by omega
   clear D0 D1 D2 D3 D4 D5 D6 D7 D8
   generalize pd*n0+qd*n3+rd*n6=s0 at*
   generalize pd*n1+qd*n4+rd*n7=s1 at*
   generalize pd*n2+qd*n5+rd*n8=s2 at*
   have hp:=gj s0 s1 s2 den h0
   have hle:=jl 500000000000000 s0 s1 s2 den (by omega) (by omega) (by omega) (by omega)
   have e1:=YJ (bH (aY [s0,s1,s2,den] s0 (by simp)))
   have e2:=YJ (bH (aY [s0,s1,s2,den] s1 (by simp)))
   have e3:=YJ (bH (aY [s0,s1,s2,den] s2 (by simp)))
   have e4:=YJ (bH (aY [s0,s1,s2,den] den (by simp)))
   have Hn:Hid (den<0→eu s0 s1 s2 den=(-(s0 / aU [s0,s1,s2,den]), -(s1 / aU [s0,s1,s2,den]), -(s2 / aU [s0,s1,s2,den]), -(den / aU [s0,s1,s2,den]))):=fun h=>if_pos h
   have Hp:Hid (0≤den→eu s0 s1 s2 den=(s0 / aU [s0,s1,s2,den],s1 / aU [s0,s1,s2,den],s2 / aU [s0,s1,s2,den],den / aU [s0,s1,s2,den])):=fun h=>if_neg (by omega)
   have t1:=bZ (g:=aU [s0,s1,s2,den]) E0
   have t2:=bZ (g:=aU [s0,s1,s2,den]) E1
   have t3:=bZ (g:=aU [s0,s1,s2,den]) E2
   have t4:=bZ (g:=aU [s0,s1,s2,den]) hdb
   have HG:Hid (Nat.gcd (Nat.gcd s0.natAbs s1.natAbs) (Nat.gcd s2.natAbs den.natAbs)=aU [s0,s1,s2,den]):=YJ (by simpa using KP s0 s1 s2 den)
   have l1:Nat.gcd s0.natAbs s1.natAbs≤500000000000000:=lH (by omega) (by omega)
   have l2:Nat.gcd s2.natAbs den.natAbs≤500000000000000:=lH (by omega) (by omega)
   generalize eu s0 s1 s2 den=pt at*
   generalize aU [s0,s1,s2,den]=gg at*
   obtain⟨x0,x1,x2,_,xz⟩:=NO HVb.out
   go_wp2
   refine wqb ?_
   repeat(first|go_big_quiet_step ((go_at_call 188;exact aE (jF _ _ _ (by omega) (by omega))))|quiet_step ((go_at_call 188;exact aE (jF _ _ _ (by omega) (by omega)))))
   refine wqn fun u=> ?_
   simp only[Int.natAbs_natCast]
   rw[HG.out]
   have HV2:=YJ ((u.below.block _ (ah HVb.out)).trans HVb.out)
   have zw:=ah HVb.out
   have hbu:Below g Y u.val:=hb.trans (u.below.mono (by omega))
   have HXu:=YJ (HPY.out.below hbu)
   have HO:=YJ HXu.out.O
   have hwu:Below w.heap.size w u.val:=hwY.trans (hbu.mono (by omega))
   clear hb x0 x1 x2 xz HX HVb HG l1 l2 HPY hwY
   generalize u.val=w1 at*
   clear u
   obtain⟨x0,x1,x2,_,xz⟩:=NO HV2.out
   have o0:=(bq HO.out 0).trans rfl
   have o1:=(bq HO.out 1).trans rfl
   have o2:=(bq HO.out 2).trans rfl
   have o3:=(bq HO.out 3).trans rfl
   simp only[qdp,qdq,qdr]at o0 o1 o2 o3
   have oz:=ah HO.out
   have of:=aC HO.out
   by_cases hneg:den<0
   ·have k1:¬(-(gg:Int)=0):=by omega
    have hneg':decide (den<0)=true:=qfX hneg
    go_wp2
    refine aQ 16 (by kernel_rfl) (by kernel_rfl) ?_
    simp only[qdv,qdu,qdw,qdy]
    repeat(first|go_big_quiet_step (fail)|quiet_step (fail))
    refine wpQuiet_nil ?_
    rintro _ ⟨u,rfl⟩
    go_wp2
    refine bodyPost_ret (v:= .tuple #[V4 (s0.tdiv (-(gg:Int))) (s1.tdiv (-(gg:Int))) (s2.tdiv (-(gg:Int))) (den.tdiv (-(gg:Int))), .bool true]) (by simp[results,Tryz.results137,go_sem,oz,o0,o1,o2,o3]) rfl ⟨?_, ?_⟩
    ·rw[Hm.out,Hn.out hneg]
     simp only[Int.tdiv_neg]
     rw[e1.out,e2.out,e3.out,e4.out]
    ·exact bel
   ·have k1:¬((gg:Int)=0):=by omega
    have hneg':decide (den<0)=false:=qfZ hneg
    go_wp2
    refine aQ 16 (by kernel_rfl) (by kernel_rfl) ?_
    simp only[qdv,qdu,qdw,qdy]
    repeat(first|go_big_quiet_step (fail)|quiet_step (fail))
    refine wpQuiet_nil ?_
    rintro _ ⟨u,rfl⟩
    go_wp2
    refine bodyPost_ret (v:= .tuple #[V4 (s0.tdiv gg) (s1.tdiv gg) (s2.tdiv gg) (den.tdiv gg), .bool true]) (by simp[results,Tryz.results137,go_sem,oz,o0,o1,o2,o3]) rfl ⟨?_, ?_⟩
    ·rw[Hm.out,Hp.out (by omega),e1.out,e2.out,e3.out,e4.out]
    ·exact bel
theorem Sn (ps:List Q4) (c:Q4) (pv:Value) (W:World) (hps:∀p∈ps,okW p) (hc:okX c) (hl:ps.length≤1000000) (hpv:Q4s W pv ps):
  Calls Tryz.prog 138 #[pv,v4 c] W (Ret W (.bool (bG ps c))):=by
 obtain⟨a,n,cc,rfl,hn,_,hx⟩:=hpv
 have HS:=fun i (h:i<ps.length) W'=>YJ (SE ps[i] c W' (hps _ (qaB h)) hc)
 have Hno:Hid (∀i (h:i<ps.length),0<sd ps[i] c→bG ps c=false):=YJ (fun i h hs=>rq i h hs)
 have Hyes:Hid ((∀i (h:i<ps.length),¬0<sd ps[i] c)→bG ps c=true):=YJ pM
 generalize bG ps c=res at*
 obtain⟨c0,c1,c2,c3⟩:=c
 obtain⟨V,HV⟩:∃V,Hid (W.alloc (.cells #[.int .i64 c0, .int .i64 c1, .int .i64 c2, .int .i64 c3] 186)=V):=⟨_,YJ rfl⟩
 have hV:Below W.heap.size W V:=by rw[←HV.out];exact bel
 have HC:Hid (V.heap[W.heap.size]? =some (.cells #[.int .i64 c0, .int .i64 c1, .int .i64 c2, .int .i64 c3] 186 (0,0))):=YJ (by rw[←HV.out];exact ai rfl)
 have HX:Hid (0<n→∃b off,a=some ⟨b,off,none⟩∧Q4At V b off ps):=YJ (fun h=>by obtain⟨b,off,e,h2⟩:=hx h;exact⟨b,off,e,h2.below hV⟩)
 clear hx hps hc
 go_enter Tryz.func138,Tryz.ntmps138
 go_wp2
 rw[HV.out]
 go_loopw [5] (fun x wr=>∃i:Nat,i≤n∧x= .int .i64 i∧Below V.heap.size V wr∧Hid (∀j (h:j<ps.length),j<i→¬0<sd ps[j] (c0,c1,c2,c3))) (fun x _=>n-(intOf x).toNat)
 case atStart=>exact⟨0,by omega,rfl,brf,YJ (fun j _ h=>by omega)⟩
 case round=>
  obtain⟨i,hi,rfl,hb,Hd⟩:=hrel
  by_cases hlt:i<n
  ·have g1:(i:Int)<(n:Int):=by omega
   have g2:(0:Int)≤(i:Int):=by omega
   have hil:i<ps.length:=by omega
   obtain⟨b,off,rfl,hi4⟩:=HX.out (by omega)
   obtain⟨e0,e1,e2,e3⟩:=(hi4.below hb) i hil
   have ze:=qaC wr _ e0
   simp only at ze
   have HSi:=fun W'=>YJ ((HS i hil W').out)
   have HCr:=YJ ((hb.block _ (ah HC.out)).trans HC.out)
   have f0:=(bq HCr.out 0).trans rfl
   have f1:=(bq HCr.out 1).trans rfl
   have f2:=(bq HCr.out 2).trans rfl
   have f3:=(bq HCr.out 3).trans rfl
   simp only[qdp,qdq,qdr]at f0 f1 f2 f3
   have zf:=ah HCr.out
   have Hno':=YJ (Hno.out i hil)
   have Hst:Hid (¬0<sd ps[i] (c0,c1,c2,c3)→∀j (h:j<ps.length),j<i+1→¬0<sd ps[j] (c0,c1,c2,c3)):=YJ (fun h j hj hji=>by
    by_cases e:j=i
    ·subst e;exact h
    ·exact Hd.out j hj (by omega))
   clear HS Hno Hd hi4 HX
   generalize sd ps[i] (c0,c1,c2,c3)=s at*
   generalize ps[i]=p at*
   obtain⟨p0,p1,p2,p3⟩:=p
   simp only at e0 e1 e2 e3 HSi
   by_cases hs:0<s
   ·have hs':decide (0<s)=true:=qfX hs
    go_wp2
    refine wqb ?_
    repeat(first|go_big_quiet_step ((go_at_call 140;exact aE ((HSi _).out)))|quiet_step ((go_at_call 140;exact aE ((HSi _).out))))
    refine wqn fun u=> ?_
    go_wp2
    go_ret
    exact⟨ay (Hno'.out hs).symm,fB hV (fB hb u.below)⟩
   ·have hs':decide (0<s)=false:=qfZ hs
    go_wp2
    refine wqb ?_
    repeat(first|go_big_quiet_step ((go_at_call 140;exact aE ((HSi _).out)))|quiet_step ((go_at_call 140;exact aE ((HSi _).out))))
    refine wqn fun u=> ?_
    go_wp2
    go_roundw
    case rel=>exact⟨i+1,by omega,by go_num,fB hb u.below,YJ (fun j h hj=>by have:=Hst.out hs j h hj;omega)⟩
    simp[intOf];try omega
  ·obtain rfl:i=n:=by omega
   have g1:¬(i:Int)<(i:Int):=by omega
   go_wp2
   go_ret
   exact⟨ay (Hyes.out (fun j h=>Hd.out j h (by omega))).symm,fB hV hb⟩
theorem SF (p q r:Q4) (w:World) (hp:okW p) (hq:okW q) (hr:okW r):
  Calls Tryz.prog 137 #[v4 p,v4 q,v4 r] w (Ret w (.tuple #[v4 (lD p q r), .bool (okB p q r)])):=by
 unfold lD okB
 exact qfU p q r w hp hq hr
theorem qgC (ps:List Q4) (pv:Value) (W:World) (hps:∀p∈ps,okW p) (hl:ps.length≤64) (hpv:Q4s W pv ps):
  Calls Tryz.prog 96 #[pv] W fun e w'=>∃r,e= .returned r∧Below W.heap.size W w'∧w'.ownsRow W.heap.size 186 4 r (ct ps).length ((ct ps).flatMap aH):=by
 obtain⟨i0,Hi0⟩:=qfT kN
 have Hpv:=YJ hpv
 obtain⟨a,n,cc,rfl,hn,_,hx⟩:=hpv
 have HX:Hid (0<n→∃b off,a=some ⟨b,off,none⟩∧Q4At W b off ps):=YJ hx
 have Hok:=fun i (h:i<ps.length)=>YJ (show okW (fk ps i)from by rw[←eN (ps:=ps) i h];exact hps _ (qaB h))
 have Hge:=fun i (h:i<ps.length)=>YJ (eN (ps:=ps) i h)
 have HP:=fun i j k (hi:i<ps.length) (hj:j<ps.length) (hk:k<ps.length) W'=>YJ (SF (fk ps i) (fk ps j) (fk ps k) W' (Hok i hi).out (Hok j hj).out (Hok k hk).out)
 have HA:=fun i j k (hi:i<ps.length) (hj:j<ps.length) (hk:k<ps.length) (h:okB (fk ps i) (fk ps j) (fk ps k)=true) W' hb=>YJ (Sn ps (lD (fk ps i) (fk ps j) (fk ps k)) _ W' hps (De _ _ _ (Hok i hi).out (Hok j hj).out (Hok k hk).out h) (by omega) (Hpv.out.below hb))
 have Hno:=fun i k m=>YJ (xH ps i k m)
 have Hbar:=fun i k m=>YJ (vB ps i k m)
 have Hyes:=fun i k m=>YJ (vC ps i k m)
 have Hm:=fun i k=>YJ (BD ps i k)
 have Hk:=fun i=>YJ (BE ps i)
 have Hln:=fun i k m h1 h2 h3=>YJ (vD ps i k m h1 h2 h3)
 have H0:Hid (fX ps 0 0 0=[]):=YJ rfl
 have Hfin:Hid (fX ps n 0 0=ct ps):=YJ (by
  unfold fX ct pN
  rw[kd,iz,qgd,qgd,hn])
 generalize ct ps=res at*
 generalize fX ps=acc at*
 clear hx hps Hok Hpv
 go_enter Tryz.func96,Tryz.ntmps96
 go_wp2
 go_loopw [3,4] (fun s x wr=>∃i:Nat,i≤n∧x= .int .i64 i∧Below W.heap.size W wr∧Hid (wr.ownsRow W.heap.size 186 4 s (acc i 0 0).length ((acc i 0 0).flatMap aH))) (fun _ x _=>n-(intOf x).toNat)
 case atStart=>exact⟨0,by omega,rfl,brf,YJ (by rw[H0.out];exact qds _ _ _ _)⟩
 case round=>
  obtain⟨i,hi,rfl,hb,HO⟩:=hrel
  by_cases hlt:i<n
  ·have g1:(i:Int)<(n:Int):=by omega
   have g2:(0:Int)≤(i:Int):=by omega
   have hil:i<ps.length:=by omega
   go_wp2
   go_loopw [3,5] (fun s x wr=>∃k:Nat,k≤i∧x= .int .i64 k∧Below W.heap.size W wr∧Hid (wr.ownsRow W.heap.size 186 4 s (acc i k 0).length ((acc i k 0).flatMap aH))) (fun _ x _=>i-(intOf x).toNat)
   case atStart=>exact⟨0,by omega,rfl,hb,HO⟩
   case round=>
    clear hb HO
    obtain⟨k,hk,rfl,hb,HO⟩:=hrel
    by_cases hlk:k<i
    ·have g3:(k:Int)<(i:Int):=by omega
     have g4:(0:Int)≤(k:Int):=by omega
     have g4':(k:Int)<(n:Int):=by omega
     have hkl:k<ps.length:=by omega
     go_wp2
     go_loopw [3,6] (fun s x wr=>∃m:Nat,m≤k∧x= .int .i64 m∧Below W.heap.size W wr∧Hid (wr.ownsRow W.heap.size 186 4 s (acc i k m).length ((acc i k m).flatMap aH))) (fun _ x _=>k-(intOf x).toNat)
     case atStart=>exact⟨0,by omega,rfl,hb,HO⟩
     case round=>
      clear hb HO
      obtain⟨m,hm,rfl,hb,HO⟩:=hrel
      by_cases hlm:m<k
      ·have g5:(m:Int)<(k:Int):=by omega
       have g6:(0:Int)≤(m:Int):=by omega
       have g6':(m:Int)<(n:Int):=by omega
       have hml:m<ps.length:=by omega
       obtain⟨b,off,rfl,hi4⟩:=HX.out (by omega)
       obtain⟨x0,x1,x2,x3⟩:=(hi4.below hb) i hil
       obtain⟨y0,y1,y2,y3⟩:=(hi4.below hb) k hkl
       obtain⟨z0,z1,z2,z3⟩:=(hi4.below hb) m hml
       rw[(Hge i hil).out]at x0 x1 x2 x3
       rw[(Hge k hkl).out]at y0 y1 y2 y3
       rw[(Hge m hml).out]at z0 z1 z2 z3
       have zx:=qaC wr _ x0
       simp only at zx
       have HPi:=fun W'=>YJ ((HP i k m hil hkl hml W').out)
       have HAi:=fun h W' hb=>YJ ((HA i k m hil hkl hml h W' hb).out)
       have Hno':=YJ ((Hno i k m).out)
       have Hbar':=YJ ((Hbar i k m).out)
       have Hyes':=YJ ((Hyes i k m).out)
       have hln:=(Hln i k m (by omega) (by omega) (by omega)).out
       have HAcc:Hid (∀c,NW (acc i k m) c=if c∈acc i k m then acc i k m else acc i k m++[c]):=YJ (fun c=>rfl)
       clear HP HA Hno Hbar Hyes hi4 HX Hge
       generalize bG ps (lD (fk ps i) (fk ps k) (fk ps m))=al at*
       generalize lD (fk ps i) (fk ps k) (fk ps m)=R at*
       generalize okB (fk ps i) (fk ps k) (fk ps m)=ok at*
       generalize fk ps i=P at*
       generalize fk ps k=Q at*
       generalize fk ps m=S at*
       generalize acc i k m=A at*
       obtain⟨P0,P1,P2,P3⟩:=P
       obtain⟨Q0,Q1,Q2,Q3⟩:=Q
       obtain⟨S0,S1,S2,S3⟩:=S
       obtain⟨R0,R1,R2,R3⟩:=R
       simp only at x0 x1 x2 x3 y0 y1 y2 y3 z0 z1 z2 z3
       go_wp2
       apply aj [15] [0,1,2,3,4,5,6,7,8,9,10,11,12,13,14,15,16] 17 [18] [sv _,sv _,sv _,sv _,sv _,sv _,sv _,sv _,sv _,sv _,sv _,sv _,sv _,sv _,sv _,sv _,⟨yd wr.heap.size 186 #[.int .i64 0, .int .i64 0, .int .i64 0, .int .i64 0],by exact ar _ _ _⟩] (by kernel_rfl) (by kernel_rfl)
       iterate 12 ((try go_frame);refine wkQ ?_)
       try go_frame
       refine MM rfl rfl (by simp) rfl rfl ?_
       apply ex3
       ·intro u hR K hK
        clear hR
        go_simp
        refine((HPi _).out).mono ?_
        rintro e w9 ⟨rfl,hb9⟩
        exact hK _ hb9
       rfl
       iterate 2 ((try go_frame);refine wkQ ?_)
       try go_frame
       refine wkz rfl rfl rfl rfl ?_
       apply Exists.intro
       apply And.intro
       ·intro w9
        go_simp
        try rfl
       refine⟨rfl, ?_⟩
       try go_frame
       refine wkU (fun u hR K hK=> ?_) (fun o16=> ?_)
       ·clear hR
        have zz:=u.below.size
        go_simp
        exact hK _ _ bel ⟨_,rfl,zz,ai rfl⟩
       try go_frame
       refine aI (fun u hR=> ?_)
       obtain⟨g,rfl,hg,hB⟩:yd wr.heap.size 186 #[.int .i64 0, .int .i64 0, .int .i64 0, .int .i64 0] o16 u.val:=hR 16 (by simp)
       have hb':=u.below
       generalize u.val=w' at*
       clear u
       have HB:=YJ hB
       obtain⟨c0,c1,c2,c3,cf,cz⟩:=am hB
       obtain⟨X,HX⟩:∃X,Hid (tB w' g (.int .i64 R0) (.int .i64 R1) (.int .i64 R2) (.int .i64 R3)=X):=⟨_,YJ rfl⟩
       have hwX:Below wr.heap.size wr X:=by rw[←HX.out];exact ru hb' hg _ _ _ _
       have HBX:Hid (X.heap[g]? =some (.cells #[.int .i64 R0, .int .i64 R1, .int .i64 R2, .int .i64 R3] 186 (0,0))):=YJ (by rw[←HX.out];exact pI HB.out _ _ _ _)
       have eX:(((w'.setCell ⟨g,0,none⟩ (.int .i64 R0)).setCell ⟨g,1,none⟩ (.int .i64 R1)).setCell ⟨g,2,none⟩ (.int .i64 R2)).setCell ⟨g,3,none⟩ (.int .i64 R3)=X:=HX.out
       have hbX:=fB hb hwX
       have HOX:=YJ (au HO.out hwX)
       clear hR hB x0 x1 x2 x3 y0 y1 y2 y3 z0 z1 z2 z3 zx HPi
       simp only[oas]
       go_wp2
       refine NoPanic.normal ?_
       try rw[eX]
       clear eX HX HB c0 c1 c2 c3 cf cz hb' hwX HO hb
       obtain⟨c0,c1,c2,c3,cf,cz⟩:=am HBX.out
       cases ok with
       |false=>
        have he:=YJ (Hno'.out (by first|trivial|rfl))
        go_wp2
        go_roundw
        case rel=>exact⟨m+1,by omega,by go_num,hbX,YJ (by rw[he.out];exact HOX.out)⟩
        simp[intOf];try omega
       |true=>
        have HA2:=YJ ((HAi rfl X hbX).out)
        clear HAi
        go_wp2_with fail
        refine(HA2.out).mono ?_
        rintro en w2 ⟨rfl,hb2⟩
        have HO2:=YJ (au HOX.out hb2)
        have HB2:=YJ ((hb2.block _ cz).trans HBX.out)
        have hbX:=fB hbX hb2
        have HOX:=HO2
        clear HA2 hb2 HO2 c0 c1 c2 c3 cf cz HBX
        obtain⟨c0,c1,c2,c3,cf,cz⟩:=am HB2.out
        cases al with
        |false=>
         have he:=YJ (Hbar'.out (by first|trivial|rfl) (by first|trivial|rfl))
         go_wp2
         go_roundw
         case rel=>exact⟨m+1,by omega,by go_num,hbX,YJ (by rw[he.out];exact HOX.out)⟩
         simp[intOf];try omega
        |true=>
         have he:=YJ (Hyes'.out (by first|trivial|rfl) (by first|trivial|rfl))
         have HHc:=YJ (mV A (R0,R1,R2,R3) _ w2 (by omega) (jz HOX.out))
         clear Hno' Hbar' Hyes'
         by_cases hin:(R0,R1,R2,R3)∈A
         ·rw[qfX hin]at HHc
          have he2:=YJ (he.out.trans ((HAcc.out _).trans (if_pos hin)))
          go_wp2_with fail
          refine(HHc.out).mono ?_
          rintro en w3 ⟨rfl,hb3⟩
          have hbX:=fB hbX hb3
          have HOX:=YJ (au HOX.out hb3)
          go_wp2
          go_roundw
          case rel=>exact⟨m+1,by omega,by go_num,hbX,YJ (by rw[he2.out];exact HOX.out)⟩
          simp[intOf];try omega
         ·rw[qfZ hin]at HHc
          have he2:=YJ (he.out.trans ((HAcc.out _).trans (if_neg hin)))
          go_wp2_with fail
          refine(HHc.out).mono ?_
          rintro en w3 ⟨rfl,hb3⟩
          have hbX:=fB hbX hb3
          have HOX:=YJ (au HOX.out hb3)
          have HB3:=YJ ((hb3.block _ cz).trans HB2.out)
          clear hb3 HHc he HAcc c0 c1 c2 c3 cf cz HB2
          obtain⟨c0,c1,c2,c3,cf,cz⟩:=am HB3.out
          go_wp2_with (at_builtin;refine wpList_append_own _ rfl _ _ 98 rfl W.heap.size 186 i0 (v4 (0,0,0,0)) 4 32 kO Hi0.out.1 Hi0.out.2.1 Hi0.out.2.2.1 Hi0.out.2.2.2 rfl (by decide) _ A.length _ rfl (HOX.out.alloc _) ⟨w3.heap.size,0,none⟩ 1 1 (aH (R0,R1,R2,R3)) rfl rfl ?c1 ?c2 ?c3 ?c4 ?c5 ?_)
          case c1=>
           intro jj uu hu
           rw[jY,aq rfl jj]
           simpa [aH]using hu
          case c2=>intro v hv;simp[aH]at hv;rcases hv with rfl|rfl|rfl|rfl<;>rfl
          case c3=>unfold maxLen;omega
          case c4=>omega
          case c5=>simp;have:=hbX.size;omega
          intro v' w4 hown4 hg4 _
          have hb4:Below W.heap.size W w4:=(hbX.alloc hbX.size _).grown hg4 (by simp;have:=hbX.size;omega) (fun z hz=>by have:=(HOX.out.lt z hz).1;omega)
          have HO4:=YJ hown4
          clear hown4 hg4
          go_wp2
          go_roundw
          case rel=>exact⟨m+1,by omega,by go_num,hb4,YJ (by rw[he2.out];simpa using HO4.out)⟩
          simp[intOf];try omega
      ·obtain rfl:m=k:=by omega
       have g5:¬(m:Int)<(m:Int):=by omega
       go_wp2
       go_roundw
       case rel=>exact⟨m+1,by omega,by go_num,hb,YJ (by rw[←(Hm i m).out];exact HO.out)⟩
       simp[intOf];try omega
    ·obtain rfl:k=i:=by omega
     have g3:¬(k:Int)<(k:Int):=by omega
     go_wp2
     go_roundw
     case rel=>exact⟨k+1,by omega,by go_num,hb,YJ (by rw[←(Hk k).out];exact HO.out)⟩
     simp[intOf];try omega
  ·obtain rfl:i=n:=by omega
   have g1:¬(i:Int)<(i:Int):=by omega
   go_wp2
   go_ret
   exact⟨_,rfl,hb,by rw[←Hfin.out];exact HO.out⟩
theorem WH (ps:List Q4) (pv:Value) (W:World) (hps:∀p∈ps,bI p) (hl:ps.length≤64) (hpv:Q4s W pv ps):
  Calls Tryz.prog 96 #[pv] W fun e w'=>∃r,e= .returned r∧Below W.heap.size W w'∧w'.ownsRow W.heap.size 186 4 r (ct ps).length ((ct ps).flatMap aH):=
 qgC ps pv W (fun p hp=>DW (hps p hp)) hl hpv
end
end Go.Proofs.YtffbilcjhlncfaaGreatDoor
