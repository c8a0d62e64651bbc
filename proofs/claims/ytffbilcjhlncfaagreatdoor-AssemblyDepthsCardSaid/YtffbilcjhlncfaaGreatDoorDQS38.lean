/- texts: BWB FG1 FG2 FG3 FG4 FG5 FG6 FG7 FGA FGB O14 AC6 AC7 ACA FG8 O17. -/
import Derived.Test.YtffbilcjhlncfaaGreatDoorDQS37
import Derived.Test.YtffbilcjhlncfaaGreatDoorDQS35
namespace Go.Proofs.YtffbilcjhlncfaaGreatDoor
set_option maxHeartbeats 8000000
set_option linter.all false
section
open Go.RowKit Go.Shelf
set_option maxRecDepth 100000
attribute [local go_sem] Ext.cell Ext.frozen
def SwQ (L:List Q4) (W:World) (e:Ending) (w':World):Prop:=∃v,e= .returned v∧Below W.heap.size W w'∧w'.ownsRow W.heap.size 190 4 v L.length (L.flatMap aH)
def Tk (x y z:Int):Prop:=(-1≤x∧x≤1)∧(-1≤y∧y≤1)∧(-1≤z∧z≤1)
def SI (c:List Q4):Prop:=bK c=0∧c.length≤8
theorem Tl (ps:List Q4) (w:Q3) (x:Q4):(ps.flatMap (Rl w x)).length≤if 0<bj (nrm x) w then(bc ps w).length else 0:=by
 induction ps with
 |nil=>simp
 |cons y l ih=>
  rw[qgm,qaE]
  unfold bc at ih ⊢
  rw[qgg]
  unfold Rl at ih ⊢
  by_cases h1:0<bj (nrm x) w
  ·rw[if_pos h1]at ih ⊢
   by_cases h2:bj (nrm y) w<0
   ·rw[if_pos (qfX h2),qdn]
    split
    ·simp only[List.length_singleton];omega
    ·simp only[List.length_nil];omega
   ·rw[if_neg (show ¬(decide (bj (nrm y) w<0)=true) by simpa using h2),if_neg (show ¬(0<bj (nrm x) w∧bj (nrm y) w<0∧nrm (kv x y w)≠(0,0,0))from fun h=>h2 h.2.1)]
    simp only[List.length_nil];omega
  ·rw[if_neg h1]at ih ⊢
   rw[if_neg (fun h=>h1 h.1)]
   simp only[List.length_nil];omega
theorem Tm (ps l:List Q4) (w:Q3):(l.flatMap fun x=>ps.flatMap (Rl w x)).length≤(cr l w).length*(bc ps w).length:=by
 induction l with
 |nil=>simp
 |cons x l ih=>
  rw[qgm,qaE]
  have h1:=Tl ps w x
  unfold cr at ih ⊢
  rw[qgg]
  by_cases h:0<bj (nrm x) w
  ·rw[if_pos h]at h1
   rw[if_pos (qfX h),qdn,Nat.add_mul,Nat.one_mul]
   omega
  ·rw[if_neg h]at h1
   rw[if_neg (by simpa using h)]
   omega
theorem Tr (ps:List Q4) (w:Q3):(cr ps w).length+(bc ps w).length≤ps.length:=by
 induction ps with
 |nil=>simp[cr,bc]
 |cons x l ih=>
  unfold cr bc at ih ⊢
  rw[qgg,qgg,qdn]
  by_cases h:0<bj (nrm x) w
  ·rw[if_pos (qfX h),if_neg (by rw[qfV];omega),qdn];omega
  ·rw[if_neg (by simpa using h)]
   split
   ·rw[qdn];omega
   ·omega
theorem SO (ps:List Q4) (w:Q3) (h:ps.length≤8):(TD ps w).length≤24:=by
 unfold TD TE
 rw[qgi,qaE]
 have h1:=Tm ps ps w
 have h2:=Tr ps w
 have h3:(IH ps w).length≤ps.length:=qdz _ _
 generalize(cr ps w).length=f at*
 generalize(bc ps w).length=b at*
 have h4:f*b≤16:=by
  have hf:f≤8:=by omega
  have hb:b≤8-f:=by omega
  have:f*b≤f*(8-f):=Nat.mul_le_mul_left f hb
  have h5:∀f,f≤8→f*(8-f)≤16:=by decide
  have:=h5 f hf
  omega
 omega
theorem Sk {c:List Q4} (h:∀p∈c,cI p):(∀p∈ch c,bI p)∧(ch c).length≤c.length:=by
 refine⟨fun q hq=> ?_, ?_⟩
 ·obtain⟨p,hp,rfl⟩:=(SH c h q).1 hq
  exact xJ p (h p (alsm.1 hp).1).1
 ·rw[xF c h]
  unfold iS Sp
  have h1:=WW (iP (iZ (aS c) c))
  have h2:(iP (iZ (aS c) c)).length=(iZ (aS c) c).length:=by unfold iP;simp
  have h3:=sk (aS c) c c.length
  rw[qgi]at h3
  omega
theorem SQ {ps:List Q4} {x y z:Int} (h:∀p∈ps,bI p) (hw:Tk x y z):∀q∈TD ps (x,y,z),okW q:=by
 intro q hq
 unfold TD at hq
 rcases altl.1 hq with hq|hq
 ·exact DW (h q (alsm.1 hq).1)
 ·obtain⟨a,ha,b,hb, -, -, -,rfl⟩:=mem_swpRi.1 hq
  exact Je _ (Jf a b (x,y,z) (h a ha) (h b hb) hw)
theorem look_ok {c d:List Q4} {x y z:Int} (hc:SI c) (hd:SI d) (hw:Tk x y z):(∀p∈TD (ch c) (x,y,z)++ch d,okW p)∧(TD (ch c) (x,y,z)++ch d).length≤32:=by
 have oc:=Sk (qV hc.1)
 have od:=Sk (qV hd.1)
 refine⟨fun p hp=> ?_, ?_⟩
 ·rcases altl.1 hp with hp|hp
  ·exact SQ oc.1 hw p hp
  ·exact DW (od.1 p hp)
 ·have h1:=SO (ch c) (x,y,z) (qaD oc.2 hc.2)
  have:=hd.2
  rw[qaE]
  omega
theorem ST {c:List Q4} {w:Q3} (h:bK c=0) (hw:w≠(0,0,0)):0<(TD (ch c) w).length:=by
 obtain⟨p,hp,h0⟩:=(Rv h).2.2.1 (Dy w) (fun h=>hw (by rw[←Dz w,h];rfl))
 have h1:bj (nrm p) w≤0:=by unfold bj Dy at h0;unfold bj;grind
 unfold TD
 rw[qaE]
 have:0<(IH (ch c) w).length:=List.length_pos_of_mem (alsm.2 ⟨hp,qfX h1⟩)
 omega
theorem SU {ps:List Q4} (h:∀p∈ps,okW p):∀c∈ct ps,okX c:=fun c hc=>by
 have hr:=((kT ps).2 c).1 hc
 obtain⟨p,hp,q,hq,r,hr',h0,e⟩:=YN (qaA _) hr
 have:=De p q r (h p hp) (h q hq) (h r hr') (by simpa [okB]using h0)
 unfold lD at this
 rw[if_neg h0]at this
 rw[e]
 exact this
theorem Tn {p q:List (List Q4)} {w:Q3} {i k:Nat} (hi:i<p.length) (hk:k<q.length) (h:rbk p[i] q[k] w=true):SG p q w=true:=by
 unfold SG
 rw[ultj]
 exact⟨p[i],qaB hi,by rw[ultj];exact⟨q[k],qaB hk,h⟩⟩
theorem Ts {p q:List (List Q4)} {w:Q3} (h:∀i k (hi:i<p.length) (hk:k<q.length),rbk p[i] q[k] w=false):SG p q w=false:=by
 unfold SG
 rw[ultp]
 intro c hc
 obtain⟨i,hi,rfl⟩:=qaJ hc
 rw[Bool.not_eq_true,ultp]
 intro d hd
 obtain⟨k,hk,rfl⟩:=qaJ hd
 rw[h i k hi hk]
 simp
def To (L:List Q4):Value→World→Prop:=fun v w=>∃x,v= .agg #[x]∧Q4s w x L
theorem Rj (L:List Q4):dR (To L):=fun _ _ _ hb ⟨x,h1,h2⟩=>⟨x,h1,Q4s.below h2 hb⟩
theorem SD (HSw:∀(ps:List Q4) (pv:Value) (x y z:Int) (W:World),(∀p∈ps,bI p)→ps.length≤16→Tk x y z→Q4s W pv ps→Calls Tryz.prog 142 #[.agg #[pv],V3 x y z] W (SwQ (TD ps (x,y,z)) W))
  (p q:List (List Q4)) (sv tv:Value) (x y z:Int) (W:World) (hp:∀c∈p,SI c) (hq:∀c∈q,SI c) (hpl:p.length≤100) (hql:q.length≤100) (hw:Tk x y z) (hw0:((x,y,z):Q3)≠(0,0,0)) (h1:SolV W sv p) (h2:SolV W tv q):
  Calls Tryz.prog 99 #[.agg #[sv], .agg #[tv],V3 x y z] W (Ret W (.bool (SG p q (x,y,z)))):=by
 obtain⟨i0,Hi0⟩:=qfT cY
 obtain⟨sa,sn,sc,rfl,hsn, -,hsx⟩:=h1
 obtain⟨ta,tn,tc,rfl,htn, -,htx⟩:=h2
 obtain⟨V,HV⟩:∃V,Hid (((W.alloc (.cells #[.slice sa sn sc] 75)).alloc (.cells #[.slice ta tn tc] 75)).alloc (.cells #[.int .i64 x, .int .i64 y, .int .i64 z] 58)=V):=⟨_,YJ rfl⟩
 have hV:Below W.heap.size W V:=by rw[←HV.out];exact bel
 have HA:Hid (V.heap[W.heap.size]? =some (.cells #[.slice sa sn sc] 75 (0,0))):=YJ (by rw[←HV.out];exact(aB (by simp<;>omega)).trans ((aB (by simp)).trans (ai rfl)))
 have HB:Hid (V.heap[W.heap.size+1]? =some (.cells #[.slice ta tn tc] 75 (0,0))):=YJ (by rw[←HV.out];exact(aB (by simp)).trans (ai (by simp)))
 have HW:Hid (V.heap[W.heap.size+2]? =some (.cells #[.int .i64 x, .int .i64 y, .int .i64 z] 58 (0,0))):=YJ (by rw[←HV.out];exact ai (by simp))
 have HX:=YJ hsx
 have HY:=YJ htx
 have Hn:=YJ hsn
 have Hm:=YJ htn
 have hxl:sn≤100:=by omega
 have hyl:tn≤100:=by omega
 have HCa:=fun i (h:i<p.length)=>YJ (hp _ (qaB h))
 have HCb:=fun i (h:i<q.length)=>YJ (hq _ (qaB h))
 have Hhit:=fun i k (hi:i<p.length) (hk:k<q.length)=>YJ (@Tn p q (x,y,z) i k hi hk)
 have Hno:=YJ (@Ts p q (x,y,z))
 have HWb:=YJ hw
 have HSw':=YJ HSw
 clear hsx htx hsn htn hp hq hpl hql hw HSw
 generalize SG p q (x,y,z)=res at*
 go_enter Tryz.func99,Tryz.ntmps99
 go_wp2
 try rw[HV.out]
 go_loopw [7] (fun i wr=>∃k:Nat,k≤sn∧i= .int .i64 k∧Below V.heap.size V wr∧Hid (∀i j (hi:i<p.length) (hj:j<q.length),i<k→rbk p[i] q[j] (x,y,z)=false)) (fun i _=>sn-(intOf i).toNat)
 case atStart=>exact⟨0,by omega,rfl,brf,YJ (fun i j _ _ h=>by omega)⟩
 case round=>
  obtain⟨k,hk,rfl,hb,Hd⟩:=hrel
  have hAr:=(hb.block _ (ah HA.out)).trans HA.out
  have a0:wr.cell? ⟨W.heap.size,0,none⟩=some (.slice sa sn sc):=(bq hAr 0).trans rfl
  have az:=ah hAr
  obtain⟨w0,w1,w2,wf,wz⟩:=NO ((hb.block _ (ah HW.out)).trans HW.out)
  clear hAr
  by_cases hlt:k<sn
  ·have g1:(k:Int)<(sn:Int):=by omega
   have g2:(0:Int)≤(k:Int):=by omega
   have hil:k<p.length:=by have:=Hn.out;omega
   obtain⟨b0,off,rfl,hi4⟩:=HX.out (by omega)
   obtain⟨pv,e0,hq⟩:=hi4 k hil
   have e0:=ab (fB hV hb) e0
   have ze:=qaC wr _ e0
   simp only at ze
   have hsl:=(HCa k hil).out
   have okc:=qV hsl.1
   have okr:=Sk okc
   have HNr:=fun W' (hW':Below wr.heap.size wr W')=>YJ (pW p[k] pv W' okc (qaD hsl.2 (by decide)) ((hq.below (fB hV hb)).below hW'))
   have HSk:=fun v W' (hv:Q4s W' v (ch p[k]))=>YJ (HSw'.out (ch p[k]) v x y z W' okr.1 (qaD okr.2 (qaD hsl.2 (by decide))) HWb.out hv)
   obtain⟨pa,pn,pc,rfl, -⟩:=hq
   have HSl:=YJ hsl
   clear hi4 hsl okc okr
   unfold SwQ at HSk
   generalize hSS:TD (ch p[k]) (x,y,z)=SS at HSk
   have HSS:=YJ hSS
   clear hSS
   go_wp2
   apply aj [] [0,1,2,3,4,5,6,7,8,9] 10 [] [sv _,sv _,sv _,sv _,sv _,sv _,⟨OA wr.heap.size (ch p[k]),by first|exact Ox _|exact Pt _ _|exact Rj _⟩,⟨To (ch p[k]),by first|exact Ox _|exact Pt _ _|exact Rj _⟩,sv _,⟨OA wr.heap.size SS,by first|exact Ox _|exact Pt _ _|exact Rj _⟩] (by kernel_rfl) (by kernel_rfl)
   iterate 6 ((try go_frame);refine wkQ ?_)
   try go_frame
   refine wkU (fun u hR K hK=> ?_) (fun o6=> ?_)
   ·clear hR
    go_simp
    refine((HNr _ u.below).out).mono ?_
    rintro e w9 ⟨v9,rfl,hb9,ho9⟩
    exact hK _ _ hb9 (AY ho9 u.below.size)
   try go_frame
   refine wkU (fun u hR K hK=> ?_) (fun o7=> ?_)
   ·have h6:(OA wr.heap.size (ch p[k])) o6 u.val:=hr hR 6
    clear hR
    have H9:=YJ h6
    obtain⟨a9,c9,rfl⟩:=aT h6
    clear h6
    go_simp
    exact hK _ _ (brf) ⟨_,rfl,jz H9.out⟩
   ((try go_frame);refine wkQ ?_)
   try go_frame
   refine wkU (fun u hR K hK=> ?_) (fun o9=> ?_)
   ·have h7:To (ch p[k]) o7 u.val:=hr hR 7
    clear hR
    obtain⟨x9,rfl,hx9⟩:=h7
    go_simp
    refine((HSk _ _ hx9).out).mono ?_
    rintro e w9 ⟨v9,rfl,hb9,ho9⟩
    exact hK _ _ hb9 (AY ho9 u.below.size)
   try go_frame
   refine aI (fun u hR=> ?_)
   have ho:OA wr.heap.size SS o9 u.val:=hR 9 (by simp)
   have HO:=YJ ho
   have hbu:=u.below
   clear hR HNr HSk a0 az w0 w1 w2 wf wz e0 ze
   have hSS0:0<SS.length:=by rw[←HSS.out];exact ST HSl.out.1 hw0
   rcases id ho.2 with⟨_,hz⟩|⟨gs,oc,_,heo,_⟩
   ·omega
   subst heo
   clear ho
   generalize u.val=wq at*
   clear u
   simp only[oas]
   go_wp2
   refine NoPanic.normal ?_
   have hbV:=fB hb hbu
   go_wp2
   go_loopw [9] (fun jv wr=>∃j:Nat,j≤tn∧jv= .int .i64 j∧Below wq.heap.size wq wr∧Hid (∀m (hm:m<q.length),m<j→rbk p[k] q[m] (x,y,z)=false)) (fun jv _=>tn-(intOf jv).toNat)
   case atStart=>exact⟨0,by omega,rfl,brf,YJ (fun m _ h=>by omega)⟩
   case round=>
    have zq:=hbu.size
    obtain⟨wp0,hwp⟩:∃n0,n0=wr.heap.size:=⟨_,rfl⟩
    obtain⟨j,hj,rfl,hbj,Hdj⟩:=hrel
    have hbVj:=fB hbV hbj
    have hBr:=(hbVj.block _ (ah HB.out)).trans HB.out
    have b1:wr.cell? ⟨W.heap.size+1,0,none⟩=some (.slice ta tn tc):=(bq hBr 0).trans rfl
    have bz:=ah hBr
    clear hBr hwp wp0 zq
    by_cases hlj:j<tn
    ·have g3:(j:Int)<(tn:Int):=by omega
     have g4:(0:Int)≤(j:Int):=by omega
     have hjl:j<q.length:=by have:=Hm.out;omega
     obtain⟨b2,off2,rfl,hi5⟩:=HY.out (by omega)
     obtain⟨qv,f0,hr⟩:=hi5 j hjl
     have f0:=ab (fB hV hbVj) f0
     have zf:=qaC wr _ f0
     simp only at zf
     have hsd:=(HCb j hjl).out
     have okd:=qV hsd.1
     have HNd:=fun W' (hW':Below wr.heap.size wr W')=>YJ (pW q[j] qv W' okd (qaD hsd.2 (by decide)) ((hr.below (fB hV hbVj)).below hW'))
     have HOj:=YJ (au HO.out hbj)
     have hLk:=look_ok HSl.out hsd HWb.out
     rw[HSS.out]at hLk
     have hrl:0<(ch q[j]).length:=by
      obtain⟨o1,ho1, -⟩:=(Rv hsd.1).2.2.1 (1,0,0) (by simp)
      exact List.length_pos_of_mem ho1
     have HCl:Hid (rbk p[k] q[j] (x,y,z)=(SS++ch q[j]).all (gM (ct (SS++ch q[j])))):=YJ (by unfold rbk;rw[HSS.out])
     have HP:=fun v W' (h:Q4s W' v (SS++ch q[j]))=>YJ (qgC (SS++ch q[j]) v W' hLk.1 (qaD hLk.2 (by decide)) h)
     have hpl:(ct (SS++ch q[j])).length≤300000:=Qc (qaD hLk.2 (by decide))
     have HI:=fun v cv W' (h:Q4s W' v (SS++ch q[j])) (h':Q4s W' cv (ct (SS++ch q[j])))=>YJ (SC (SS++ch q[j]) (ct (SS++ch q[j])) v cv W' hLk.1 (SU hLk.1) (qaD hLk.2 (by decide)) (by omega) h h')
     have hln:(SS++ch q[j]).length≤32:=hLk.2
     have Hh:=YJ ((Hhit k j hil hjl).out)
     have Hst:Hid (rbk p[k] q[j] (x,y,z)=false→∀m (hm:m<q.length),m<j+1→rbk p[k] q[m] (x,y,z)=false):=YJ (fun h m hm hmj=>by
      by_cases e:m=j
      ·subst e;exact h
      ·exact Hdj.out m hm (by omega))
     obtain⟨qa,qn,qc,rfl, -⟩:=hr
     rw[←HCl.out]at HI
     rw[qaE]at hln
     clear hi5 hsd okd HX HY Hhit Hno Hd Hdj HCa HCb HO HSl HSS HCl hLk HSw' HWb
     generalize rbk p[k] q[j] (x,y,z)=cl at*
     generalize hRD:ch q[j]=RD at*
     clear hRD
     generalize hcor:ct (SS++RD)=cor at*
     clear hcor
     go_wp2
     apply aj [] [0,1,2,3,4,5,6,7,8,9] 10 [11] [⟨QE wr.heap.size,by first|exact Ox _|exact Pt _ _|exact Rj _⟩,sv _,⟨OA wr.heap.size SS,by first|exact Ox _|exact Pt _ _|exact Rj _⟩,sv _,sv _,sv _,sv _,sv _,sv _,⟨OA wr.heap.size RD,by first|exact Ox _|exact Pt _ _|exact Rj _⟩] (by kernel_rfl) (by kernel_rfl)
     try go_frame
     refine wkU (fun u hR K hK=> ?_) (fun o0=> ?_)
     ·clear hR
      have zz:=u.below.size
      go_simp
      exact hK _ _ bel ⟨_,rfl,zz,ai rfl⟩
     ((try go_frame);refine wkQ ?_)
     try go_frame
     refine wkU (fun u hR K hK=> ?_) (fun o2=> ?_)
     ·have h0:QE wr.heap.size o0 u.val:=hr hR 0
      clear hR
      obtain⟨gm,rfl,hgm,hgl⟩:=h0
      have hOu:=au HOj.out u.below
      obtain⟨v9,w9,hrun,hown9,hb9⟩:=dM (P:=Tryz.prog) (w:=u.val) 162 162 190 i0 (v4 (0,0,0,0)) 4 32 Oc Hi0.out.1 Hi0.out.2.1 Hi0.out.2.2.1 Hi0.out.2.2.2 rfl (by decide) ⟨gm,0,none⟩ 0 0 [] rfl (fun _ _ h=>by simp at h) ⟨gs,0,none⟩ SS.length oc (SS.flatMap aH) (by rw[bh]) (World.ownsRow.cells hOu rfl) (by omega) (by unfold maxLen;omega) (by omega)
      exact cZ _ _ 162 rfl hrun (hK _ _ hb9 (show OA wr.heap.size SS v9 w9 from by have h9:=AY hown9 u.below.size;simp only[qfW,List.nil_append]at h9;exact h9))
     iterate 6 ((try go_frame);refine wkQ ?_)
     try go_frame
     refine wkU (fun u hR K hK=> ?_) (fun o9=> ?_)
     ·clear hR
      go_simp
      refine((HNd _ u.below).out).mono ?_
      rintro e w9 ⟨v9,rfl,hb9,ho9⟩
      exact hK _ _ hb9 (AY ho9 u.below.size)
     try go_frame
     refine aI (fun u hR=> ?_)
     have h2:OA wr.heap.size SS o2 u.val:=hR 2 (by simp)
     have h9:OA wr.heap.size RD o9 u.val:=hR 9 (by simp)
     rcases id h9.2 with⟨_,hz⟩|⟨gd,cd,_,hed,_⟩
     ·omega
     subst hed
     have hbu2:=u.below
     have hs9:=World.ownsRow.cells h9 rfl
     clear hR b1 bz f0 zf HNd h9
     generalize u.val=w5 at*
     clear u
     simp only[oas]
     refine jf h2 hbu2 hbu2.size rfl hs9 _ _ rfl rfl rfl rfl (by omega) fun v6 w6 hown6 hb6=> ?_
     have HQ6:=YJ (jz hown6)
     obtain⟨va,vc,rfl⟩:=aT hown6
     generalize(SS++RD).length=nn at*
     clear h2 hs9 hown6 hbu2
     have HP6:=YJ ((HP _ w6 HQ6.out).out)
     clear HP HOj
     iterate 1 (refine wpList_step (fun K hK=> ?_);go_simp;refine hK _ _ ?_;clear hK K)
     refine NoPanic.normal ?_
     go_wp2_with fail
     refine HP6.out.mono ?_
     rintro e w7 ⟨cv,rfl,hb7,hc7⟩
     have HC7:=YJ (jz hc7)
     have HI7:=YJ ((HI _ cv w7 (HQ6.out.below hb7) HC7.out).out)
     obtain⟨ca,cc,rfl⟩:=aT hc7
     have hb67:=fB hb6 hb7
     clear HI hc7 HP6 HQ6 HC7
     generalize cor.length=cn at*
     go_wp2_with fail
     refine HI7.out.mono ?_
     rintro e w8 ⟨rfl,hb8⟩
     have hb68:=fB hb67 hb8
     cases cl with
     |true=>
      obtain rfl:=Hh.out rfl
      have hw8:=fB (fB hV hbVj) hb68
      clear HI7 Hh Hst
      go_wp2
      go_ret
      exact⟨ay (by simp),hw8⟩
     |false=>
      have HF:=YJ (Hst.out rfl)
      clear HI7 Hh Hst
      go_wp2
      go_roundw
      case rel=>exact⟨j+1,by omega,by go_num,fB hbj hb68,HF⟩
      simp[intOf];try omega
    ·obtain rfl:j=tn:=by omega
     have Hd2:Hid (∀i j (hi:i<p.length) (hj:j<q.length),i<k+1→rbk p[i] q[j] (x,y,z)=false):=YJ (fun i m hi hm h=>by
      by_cases e:i=k
      ·subst e;exact Hdj.out m hm (by have:=Hm.out;omega)
      ·exact Hd.out i m hi hm (by omega))
     clear HX HY Hhit Hno HCa HCb HO HSl HSS HSw'
     go_wp2
     go_roundw
     case rel=>exact⟨k+1,by omega,by go_num,hbVj,Hd2⟩
     simp[intOf];try omega
  ·obtain rfl:k=sn:=by omega
   have hT:=Hno.out (fun i j hi hj=>Hd.out i j hi hj (by have:=Hn.out;omega))
   subst hT
   have hw4:Below W.heap.size W wr:=fB hV hb
   clear HX HY Hhit Hno Hd HCa HCb HSw' HWb
   go_wp2
   go_ret
   exact⟨ay (by simp),hw4⟩
end
section
open Go.RowKit Go.Shelf Go.Lib
attribute [local go_sem] Ext.cell Ext.frozen
theorem WB {xs:List Int} {x:Int} {k:Nat} (h:k<xs.length) (e:xs[k]=x):xs.contains x=true:=by
 rw[List.contains_iff_mem, ←e];exact qaB h
theorem WC {xs:List Int} {x:Int} (h:∀k (h:k<xs.length),xs[k]≠x):xs.contains x=false:=by
 rw[Bool.eq_false_iff]
 intro hc
 obtain⟨k,hk,e⟩:=qaJ (List.contains_iff_mem.1 hc)
 exact h k hk e
theorem VO (v:Value) (xs:List Int) (x:Int) (W:World) (hm:xs.length≤1000000) (hx:Ints W v xs):
  Calls Tryz.prog 48 #[v, .int .i64 x] W (fun e w'=>e= .returned (.bool (xs.contains x))∧w'=W):=by
 have HT:=fun k (h:k<xs.length)=>YJ (@WB xs x k h)
 have HF:=YJ (@WC xs x)
 obtain⟨a,n,c,rfl,hn,_,hi⟩:=hx
 have HX:=YJ hi
 have HN:=YJ hn
 clear hi hn
 generalize xs.contains x=res at*
 go_enter Tryz.func48,Tryz.ntmps48
 go_wp2
 go_loopw [5] (fun i wr=>wr=W∧∃k:Nat,k≤n∧i= .int .i64 k∧Hid (∀j (h:j<xs.length),j<k→xs[j]≠x)) (fun i _=>n-(intOf i).toNat)
 case atStart=>exact⟨rfl,0,by omega,rfl,YJ (fun j _ h=>by omega)⟩
 case round=>
  obtain⟨rfl,k,hk,rfl,Hd⟩:=hrel
  by_cases hlt:k<n
  ·have g1:(k:Int)<(n:Int):=by omega
   have g2:(0:Int)≤(k:Int):=by omega
   have hil:k<xs.length:=by have:=HN.out;omega
   obtain⟨b,off,rfl,hi4⟩:=HX.out (by omega)
   have e0:=hi4 k hil
   have ze:=qaC wr _ e0
   simp only at ze
   have HK:=YJ (HT k hil).out
   have Hst:Hid (xs[k]≠x→∀j (h:j<xs.length),j<k+1→xs[j]≠x):=YJ (fun h j hj hji=>by
    by_cases e:j=k
    ·subst e;exact h
    ·exact Hd.out j hj (by omega))
   clear HX HT HF hi4 Hd
   generalize xs[k]=y at*
   by_cases hy:y=x
   ·have hr:=HK.out hy
    subst hr hy
    go_wp2
    go_ret
    exact⟨by trivial,rfl⟩
   ·have hyb:(y==x)=false:=by simpa using hy
    go_wp2
    go_roundw
    case rel=>exact⟨by trivial,k+1,by omega,by go_num,YJ (Hst.out hy)⟩
    simp[intOf];try omega
  ·obtain rfl:k=n:=by omega
   have hr:=HF.out (fun j h=>Hd.out j h (by have:=HN.out;omega))
   subst hr
   clear HX HT HF Hd
   go_wp2
   go_ret
   exact⟨by trivial,rfl⟩
def Wu (xs:List Int) (W:World) (e:Ending) (w':World):Prop:=∃v,e= .returned v∧Below W.heap.size W w'∧w'.ownsRow W.heap.size 3 1 v xs.length (xs.map (Value.int .i64))
def nI (l:List Nat):List Int:=l.map fun n:Nat=>(n:Int)
theorem TO (l:List Nat):(nI l).length=l.length:=qdo _
theorem Wm (l:List Nat) (n:Nat):(nI l).contains (n:Int)=l.contains n:=by
 rw[Bool.eq_iff_iff,List.contains_iff_mem,List.contains_iff_mem]
 unfold nI
 rw[altt]
 exact⟨fun⟨m,h,e⟩=>by rw[←Int.ofNat_inj.1 e];exact h,fun h=>⟨n,h,rfl⟩⟩
theorem VV (l m:List Nat):(nI l).filter (fun y=> !(nI m).contains y)=nI (l.filter fun y=> !m.contains y):=by
 induction l with
 |nil=>rfl
 |cons a l ih=>
  show List.filter _ ((a:Int)::nI l)=_
  rw[qgg,qgg,Wm,ih]
  split<;>rfl
theorem Vm (l:List Nat):(nI l).map (Value.int .i64)=l.map iV:=by unfold nI;rw[List.map_map];rfl
theorem Vb {w:World} {B:Nat} {v:Value} {l:List Nat} (h:w.ownsRow B 3 1 v l.length (l.map iV)):Ints w v (nI l):=jy (T:=3) (base:=B) (by rw[TO,Vm];exact h)
theorem XN (k:Nat):nI (List.range (k+1))=nI (List.range k)++[(k:Int)]:=by unfold nI;rw[List.range_succ,qgh];rfl
set_option maxRecDepth 100000 in
theorem Yo (n:Nat) (W:World) (hn:n≤1000000):Calls Tryz.prog 15 #[.int .i64 n] W (Wu (nI (List.range n)) W):=by
 obtain⟨i0,Hi0⟩:=qfT In
 go_enter Tryz.func15,Tryz.ntmps15
 go_wp2
 go_loopw [3,4] (fun s x wr=>∃(k:Nat),k≤n∧x= .int .i64 k∧Below W.heap.size W wr∧Hid (wr.ownsRow W.heap.size 3 1 s (nI (List.range k)).length ((nI (List.range k)).map (Value.int .i64)))) (fun _ x _=>n-(intOf x).toNat)
 case atStart=>exact⟨0,by omega,rfl,brf,YJ (by exact qds _ _ _ _)⟩
 case round=>
  obtain⟨k,hk,rfl,hb,HO⟩:=hrel
  obtain⟨oa,oc,rfl⟩:=aT HO.out
  by_cases hlt:k<n
  ·have g1:(k:Int)<(n:Int):=by omega
   have Hs:=YJ (XN k)
   have hPl:(nI (List.range k)).length≤1000000:=by rw[TO,qdA];omega
   generalize nI (List.range k)=P at*
   go_wp2_with (at_builtin;refine wpList_append_own _ rfl _ _ 34 rfl W.heap.size 3 i0 (.int .i64 0) 1 8 Io Hi0.out.1 Hi0.out.2.1 Hi0.out.2.2.1 Hi0.out.2.2.2 rfl (by decide) _ P.length _ rfl ((HO).out.alloc _) ⟨_,0,none⟩ 1 1 [.int .i64 (k:Int)] rfl rfl ?c1 ?c2 ?c3 ?c4 ?c5 ?_)
   case c1=>
    intro jj uu hu
    rw[jY,aq (by simp) jj]
    simpa using hu
   case c2=>intro v hv;simp at hv;subst hv;rfl
   case c3=>unfold maxLen;omega
   case c4=>omega
   case c5=>simp;have:=(hb).size;omega
   intro v' w4 hown4 hg4 hu4
   have hb4:Below W.heap.size W w4:=((hb).alloc (hb).size _).grown hg4 (by simp;have:=(hb).size;omega) (fun z hz=>by have:=((HO).out.lt z hz).1;omega)
   have HO4:Hid (w4.ownsRow W.heap.size 3 1 v' (nI (List.range (k+1))).length ((nI (List.range (k+1))).map (Value.int .i64))):=YJ (by rw[show nI (List.range (k+1))=P++[(k:Int)]from Hs.out,qaE,qgh];exact hown4)
   clear hown4 hg4 hu4
   obtain⟨va,vc,rfl⟩:=aT HO4.out
   clear HO
   go_wp2
   go_roundw
   case rel=>exact⟨k+1,by omega,by go_num,hb4,HO4⟩
   simp[intOf];try omega
  ·obtain rfl:k=n:=by omega
   go_wp2
   go_ret
   exact⟨_,rfl,hb,HO.out⟩
def Ug (xs ys:List Int):List Int:=xs.filter fun y=> !ys.contains y
theorem VW {xs ys:List Int} {k:Nat} (h:k<xs.length):Ug (xs.take (k+1)) ys=if ys.contains xs[k]=true then Ug (xs.take k) ys else Ug (xs.take k) ys++[xs[k]]:=by
 unfold Ug
 rw[qaI h,qgo]
 split
 ·rename_i hc;rw[qgg,hc];simp
 ·rename_i hc;rw[qgg,Bool.eq_false_iff.2 hc];simp
set_option maxRecDepth 100000 in
theorem Vs (v v2:Value) (xs ys:List Int) (W:World) (hm:xs.length≤1000000) (hm2:ys.length≤1000000) (hx:Ints W v xs) (hy:Ints W v2 ys):Calls Tryz.prog 57 #[v,v2] W (Wu (Ug xs ys) W):=by
 obtain⟨i0,Hi0⟩:=qfT In
 have HHas:=fun x W' (hb:Below W.heap.size W W')=>YJ (VO v2 ys x W' hm2 (hy.below hb))
 have HS:=fun k (h:k<xs.length)=>YJ (@VW xs ys k h)
 have HLn:=fun k=>YJ (show(Ug (xs.take k) ys).length≤1000000 from qaD (qdz _ _) (by rw[qge];omega))
 obtain⟨a,n,c,rfl,hn,_,hi⟩:=hx
 have HX:=YJ hi
 have HN:=YJ hn
 have HE:Hid (Ug (xs.take n) ys=Ug xs ys):=YJ (by rw[←hn,qgi])
 have hm1:n≤1000000:=by omega
 obtain⟨ya,yn,yc,rfl, -⟩:=hy
 clear hi hn hm hm2
 go_enter Tryz.func57,Tryz.ntmps57
 go_wp2
 go_loopw [5,6] (fun s x wr=>∃(k:Nat),k≤n∧x= .int .i64 k∧Below W.heap.size W wr∧Hid (wr.ownsRow W.heap.size 3 1 s (Ug (xs.take k) ys).length ((Ug (xs.take k) ys).map (Value.int .i64)))) (fun _ x _=>n-(intOf x).toNat)
 case atStart=>exact⟨0,by omega,rfl,brf,YJ (qds _ _ _ _)⟩
 case round=>
  obtain⟨k,hk,rfl,hb,HO⟩:=hrel
  obtain⟨oa,oc,rfl⟩:=aT HO.out
  by_cases hlt:k<n
  ·have g1:(k:Int)<(n:Int):=by omega
   have g2:(0:Int)≤(k:Int):=by omega
   have hil:k<xs.length:=by have:=HN.out;omega
   obtain⟨b,off,rfl,hi4⟩:=HX.out (by omega)
   have e0:=ab hb (hi4 k hil)
   have ze:=qaC wr _ e0
   simp only at ze
   have Hs:=YJ (HS k hil).out
   have hPl:=(HLn k).out
   have HC:=YJ (HHas xs[k] wr hb).out
   clear HX HS HLn hi4 HHas
   generalize xs[k]=y at*
   generalize Ug (xs.take k) ys=P at*
   generalize ys.contains y=cb at*
   go_wp2_with fail
   refine(HC.out).mono ?_
   rintro e w1 ⟨rfl,rfl⟩
   clear HC
   cases cb with
   |true=>
    have Hs':=Hs.out
    rw[if_pos rfl]at Hs'
    rw[←Hs']at HO
    go_wp2
    go_roundw
    case rel=>exact⟨k+1,by omega,by go_num,hb,by first|exact HO|(rw[Hs']at HO ⊢;exact HO)⟩
    simp[intOf];try omega
   |false=>
    have Hs':Ug (xs.take (k+1)) ys=P++[y]:=by rw[Hs.out,if_neg (by simp)]
    clear Hs
    go_wp2_with (at_builtin;refine wpList_append_own _ rfl _ _ 34 rfl W.heap.size 3 i0 (.int .i64 0) 1 8 Io Hi0.out.1 Hi0.out.2.1 Hi0.out.2.2.1 Hi0.out.2.2.2 rfl (by decide) _ P.length _ rfl ((HO).out.alloc _) ⟨_,0,none⟩ 1 1 [.int .i64 y] rfl rfl ?c1 ?c2 ?c3 ?c4 ?c5 ?_)
    case c1=>
     intro jj uu hu
     rw[jY,aq (by simp) jj]
     simpa using hu
    case c2=>intro v hv;simp at hv;subst hv;rfl
    case c3=>unfold maxLen;omega
    case c4=>omega
    case c5=>simp;have:=(hb).size;omega
    intro v' w4 hown4 hg4 hu4
    have hb4:Below W.heap.size W w4:=((hb).alloc (hb).size _).grown hg4 (by simp;have:=(hb).size;omega) (fun z hz=>by have:=((HO).out.lt z hz).1;omega)
    have HO4:Hid (w4.ownsRow W.heap.size 3 1 v' (Ug (xs.take (k+1)) ys).length ((Ug (xs.take (k+1)) ys).map (Value.int .i64))):=YJ (by rw[show Ug (xs.take (k+1)) ys=P++[y]from Hs',qaE,qgh];exact hown4)
    clear hown4 hg4 hu4
    obtain⟨va,vc,rfl⟩:=aT HO4.out
    clear HO e0 ze
    go_wp2
    go_roundw
    case rel=>exact⟨k+1,by omega,by go_num,hb4,HO4⟩
    simp[intOf];try omega
  ·obtain rfl:k=n:=by omega
   clear HX HS HLn HHas
   go_wp2
   go_ret
   refine⟨_,rfl,hb, ?_⟩
   have:=HO.out
   rw[HE.out]at this
   first|exact this|(rw[HE.out];exact this)
end
section
open Go.RowKit Go.Shelf Go.Lib
set_option maxRecDepth 100000
attribute [local go_sem] Ext.cell Ext.frozen
def RowsP {α:Type} (P:Value→α→Prop) (vs:List Value) (l:List α):Prop:=vs.length=l.length∧∀i (h1:i<vs.length) (h2:i<l.length),P vs[i] l[i]
theorem RowsP.nil {α:Type} {P:Value→α→Prop}:RowsP P [] []:=⟨rfl,fun i h=>by simp at h⟩
theorem RowsP.snoc {α:Type} {P:Value→α→Prop} {vs:List Value} {l:List α} {v:Value} {s:α} (h:RowsP P vs l) (hv:P v s):RowsP P (vs++[v]) (l++[s]):=by
 refine⟨by simp[h.1],fun i h1 h2=> ?_⟩
 by_cases hi:i<vs.length
 ·have hc:i<l.length:=by rw[←h.1];exact hi
  rw[qgn hi,qgn hc]
  exact h.2 i hi hc
 ·have he:i=vs.length:=by simp at h1;omega
  subst he
  have:=h.1
  simp only[List.getElem_append_right (qaA _),Nat.sub_self,qdt]
  rw[List.getElem_append_right (by omega)]
  simp only[this,Nat.sub_self,qdt]
  exact hv
theorem RowsP.imp {α:Type} {P Q:Value→α→Prop} {vs:List Value} {l:List α} (hi:∀v a,P v a→Q v a) (h:RowsP P vs l):RowsP Q vs l:=⟨h.1,fun i h1 h2=>hi _ _ (h.2 i h1 h2)⟩
theorem Vt {α:Type} {E:World→Value→α→Prop} {w:World} {B n:Nat} {T:TypeId} {v:Value} {vs:List Value} {l:List α} (h:w.ownsRow B T 1 v n vs) (hn:n=l.length) (hr:RowsP (E w) vs l):Each w v E l:=by
 subst hn
 have hlen:=h.1
 have hX:=h.2
 rcases hX with⟨rfl,h0⟩|⟨g,cap,cur,rfl,hb,hh,hnc,hcm,hcs,htk⟩
 ·exact⟨none,0,0,rfl,h0,qaA _,fun h=>absurd h (by omega)⟩
 ·refine⟨_,_,_,rfl,rfl,hnc,fun _=>⟨g,0,rfl,fun i hi=> ?_⟩⟩
  have hi2:i<vs.length:=by omega
  refine⟨vs[i], ?_,hr.2 i hi2 hi⟩
  have h3:=(World.ownsRow.cells h rfl) i vs[i] (by simp[hi2])
  simpa [jY]using h3
def OwnI (B:Nat) (w:World) (v:Value) (l:List Nat):Prop:=w.ownsRow B 3 1 v l.length (l.map iV)
theorem OwnI.below {B:Nat} {w w':World} {v:Value} {l:List Nat} (h:OwnI B w v l) (hb:Below w.heap.size w w'):OwnI B w' v l:=au h hb
theorem OwnI.mono {B B':Nat} {w:World} {v:Value} {l:List Nat} (h:OwnI B w v l) (hb:B'≤B):OwnI B' w v l:=AY h hb
theorem OwnI.ints {B:Nat} {w:World} {v:Value} {l:List Nat} (h:OwnI B w v l):Ints w v (nI l):=Vb h
theorem OwnI.kept {B:Nat} {w w':World} {v:Value} {l:List Nat} {row:Option Nat} {T:TypeId} (hT:T≠3) (h:OwnI B w v l) (hg:w.grownBy w' row) (hne:∀g cs,row=some g→w.heap[g]? =some cs→∃c t,cs= .cells c t (0,0)∧t=T):OwnI B w' v l:=
 Qu h hg (fun g cs k1 k2=>by obtain⟨c,t,h3,h4⟩:=hne g cs k1 k2;exact⟨c,t,h3,by rw[h4];exact hT⟩)
def OwnG (B:Nat) (w:World) (v:Value) (g:List (List Nat)):Prop:=∃vs,w.ownsRow B 34 1 v g.length vs∧RowsP (OwnI B w) vs g
theorem OwnG.below {B:Nat} {w w':World} {v:Value} {g:List (List Nat)} (h:OwnG B w v g) (hb:Below w.heap.size w w'):OwnG B w' v g:=by
 obtain⟨vs,h1,h2⟩:=h
 exact⟨vs,au h1 hb,h2.imp fun _ _ h=>h.below hb⟩
theorem OwnG.mono {B B':Nat} {w:World} {v:Value} {g:List (List Nat)} (h:OwnG B w v g) (hb:B'≤B):OwnG B' w v g:=by
 obtain⟨vs,h1,h2⟩:=h
 exact⟨vs,AY h1 hb,h2.imp fun _ _ h=>h.mono hb⟩
theorem OwnG.kept {B:Nat} {w w':World} {v:Value} {g:List (List Nat)} {row:Option Nat} {T:TypeId} (hT:T≠3) (hT2:T≠34) (h:OwnG B w v g) (hg:w.grownBy w' row) (hne:∀g cs,row=some g→w.heap[g]? =some cs→∃c t,cs= .cells c t (0,0)∧t=T):OwnG B w' v g:=by
 obtain⟨vs,h1,h2⟩:=h
 exact⟨vs,Qu h1 hg (fun g cs k1 k2=>by obtain⟨c,t,h3,h4⟩:=hne g cs k1 k2;exact⟨c,t,h3,by rw[h4];exact hT2⟩),h2.imp fun _ _ h=>h.kept hT hg hne⟩
def NatV (w:World) (v:Value) (l:List Nat):Prop:=Ints w v (nI l)
def GrfV (w:World) (v:Value) (g:List (List Nat)):Prop:=Each w v NatV g
def GsV (w:World) (v:Value) (gs:List (List (List Nat))):Prop:=Each w v GrfV gs
theorem NatV.below {w w':World} {v:Value} {l:List Nat} (h:NatV w v l) (hb:Below w.heap.size w w'):NatV w' v l:=Ints.below h hb
theorem GrfV.below {w w':World} {v:Value} {g:List (List Nat)} (h:GrfV w v g) (hb:Below w.heap.size w w'):GrfV w' v g:=Each.below (fun _ _ _ _ hb h=>NatV.below h hb) h hb
theorem GsV.below {w w':World} {v:Value} {gs:List (List (List Nat))} (h:GsV w v gs) (hb:Below w.heap.size w w'):GsV w' v gs:=Each.below (fun _ _ _ _ hb h=>GrfV.below h hb) h hb
theorem OwnG.grf {B:Nat} {w:World} {v:Value} {g:List (List Nat)} (h:OwnG B w v g):GrfV w v g:=by
 obtain⟨vs,h1,h2⟩:=h
 exact Vt h1 rfl (h2.imp fun _ _ h=>h.ints)
def GrO (g:List (List Nat)) (W:World) (e:Ending) (w':World):Prop:=∃v,e= .returned v∧Below W.heap.size W w'∧OwnG W.heap.size w' v g
theorem VX:(Tryz.prog.info? 34).map (fun i=>(i.zero,i.size,i.bytes))=some (some (.slice none 0 0),1,24):=by kernel_rfl
theorem VY:Tryz.prog.underlying 46=some (.slice 34):=by kernel_rfl
def TF (l:List (List (List Q4))) (w:Q3):List (List Nat):=(List.range l.length).map (UQ l w)
theorem TV (l:List (List (List Q4))) (w:Q3):(TF l w).length=l.length:=by unfold TF;simp
theorem VC {l:List (List (List Q4))} {w:Q3} {k:Nat} (h:k<l.length):(TF l w).take (k+1)=(TF l w).take k++[UQ l w k]:=by
 rw[qaI (by rw[TV];exact h)]
 congr 2
 unfold TF
 simp
def TH (l:List (List (List Q4))) (w:Q3) (i k:Nat):List Nat:=(List.range k).filter fun k=>decide (k≠i)&&SG (l.getD i []) (l.getD k []) w
theorem VD {l:List (List (List Q4))} {w:Q3} {i k:Nat} (hi:i<l.length) (hk:k<l.length):TH l w i (k+1)=if(decide (k≠i)&&SG l[i] l[k] w)=true then TH l w i k++[k]else TH l w i k:=by
 unfold TH
 rw[List.range_succ,qgo,qgg]
 have e1:l.getD i []=l[i]:=by simp[List.getD,hi]
 have e2:l.getD k []=l[k]:=by simp[List.getD,hk]
 rw[e1,e2]
 split<;>simp
theorem VZ (l:List (List (List Q4))) (w:Q3) (i k:Nat):(TH l w i k).length≤k:=qaD (qdz _ _) (by simp)
theorem VE (l:List (List (List Q4))) (lv:Value) (x y z:Int) (W:World) (hl:l.length≤1000) (hL:∀s∈l,s.length≤100∧∀c∈s,SI c) (hw:Tk x y z) (hw0:((x,y,z):Q3)≠(0,0,0)) (h:SolsV W lv l):
  Calls Tryz.prog 51 #[lv,V3 x y z] W (GrO (TF l (x,y,z)) W):=by
 obtain⟨i0,hi0,hz0,hz1,hz2⟩:=info_parts In
 have Hi0:=YJ (And.intro hi0 (And.intro hz0 (And.intro hz1 hz2)))
 obtain⟨i1,hj0,hy0,hy1,hy2⟩:=info_parts VX
 have Hi1:=YJ (And.intro hj0 (And.intro hy0 (And.intro hy1 hy2)))
 clear hi0 hz0 hz1 hz2 hj0 hy0 hy1 hy2
 obtain⟨V,HV⟩:∃V,Hid (W.alloc (.cells #[.int .i64 x, .int .i64 y, .int .i64 z] 58)=V):=⟨_,YJ rfl⟩
 have hV:Below W.heap.size W V:=by rw[←HV.out];exact bel
 have zV:W.heap.size≤V.heap.size:=hV.size
 have HW:Hid (V.heap[W.heap.size]? =some (.cells #[.int .i64 x, .int .i64 y, .int .i64 z] 58 (0,0))):=YJ (by rw[←HV.out];exact ai rfl)
 have HB:=fun i k (hi:i<l.length) (hk:k<l.length) sv tv W' (k1:SolV W' sv l[i]) (k2:SolV W' tv l[k])=>YJ (SD (fun ps pv x y z W h1 h2 h3 h4=>Tf ps pv x y z W h1 h2 h3.1 h3.2.1 h3.2.2 h4) l[i] l[k] sv tv x y z W' (hL _ (qaB hi)).2 (hL _ (qaB hk)).2 (hL _ (qaB hi)).1 (hL _ (qaB hk)).1 hw hw0 k1 k2)
 have HS1:=fun k (h:k<l.length)=>YJ (@VC l (x,y,z) k h)
 have HS2:=fun i k (hi:i<l.length) (h:k<l.length)=>YJ (@VD l (x,y,z) i k hi h)
 have HLn:=fun i k=>YJ (VZ l (x,y,z) i k)
 obtain⟨la,n,lc,rfl,hn, -,hx⟩:=h
 have HX:=YJ hx
 have HN:=YJ hn
 have hn1:n≤1000:=by omega
 have HE:Hid ((TF l (x,y,z)).take n=TF l (x,y,z)):=YJ (by rw[←hn, ←TV l (x,y,z),qgi])
 have HEl:Hid ((TF l (x,y,z)).length=n):=YJ (by rw[TV,hn])
 have HRg:Hid (∀i,TH l (x,y,z) i n=UQ l (x,y,z) i):=YJ (fun i=>by unfold TH UQ;rw[hn])
 clear hx hn hl hL hw hw0
 go_enter Tryz.func51,Tryz.ntmps51
 go_wp2
 try rw[HV.out]
 go_loopw [5,6] (fun s ix wr=>∃k:Nat,k≤n∧ix= .int .i64 k∧Below V.heap.size V wr∧∃vs,Hid (wr.ownsRow V.heap.size 34 1 s k vs)∧Hid (RowsP (OwnI V.heap.size wr) vs ((TF l (x,y,z)).take k))) (fun _ ix _=>n-(intOf ix).toNat)
 case atStart=>exact⟨0,by omega,rfl,brf,[],YJ (qds _ _ _ _),YJ (by rw[qdu];exact RowsP.nil)⟩
 case round=>
  obtain⟨i,hi,rfl,hb,vs,HO,HR⟩:=hrel
  obtain⟨oa,oc,rfl⟩:=aT HO.out
  by_cases hlt:i<n
  ·have g1:(i:Int)<(n:Int):=by omega
   have g2:(0:Int)≤(i:Int):=by omega
   have hil:i<l.length:=by have:=HN.out;omega
   have HSi:=YJ (HS1 i hil).out
   have HS2i:=fun k (h:k<l.length)=>YJ (HS2 i k hil h).out
   have HBi:=fun k (h:k<l.length) sv tv W' k1 k2=>YJ (HB i k hil h sv tv W' k1 k2).out
   have hbV:=fB hV hb
   obtain⟨b,off,rfl,hi4⟩:=HX.out (by omega)
   have HX4:=YJ hi4
   clear hi4 HX HS1 HS2 HB
   obtain⟨wo,rfl⟩:∃wo:World,wo=wr:=⟨_,rfl⟩
   go_wp2
   go_loopw [7,8] (fun r iy wr=>∃k:Nat,k≤n∧iy= .int .i64 k∧Below wo.heap.size wo wr∧Hid (wr.ownsRow wo.heap.size 3 1 r (TH l (x,y,z) i k).length ((TH l (x,y,z) i k).map iV))) (fun _ iy _=>n-(intOf iy).toNat)
   case atStart=>exact⟨0,by omega,rfl,brf,YJ (qds _ _ _ _)⟩
   case round=>
    obtain⟨k,hk,rfl,hbw,HP⟩:=hrel
    obtain⟨ra,rc,rfl⟩:=aT HP.out
    by_cases hkn:k<n
    ·have g3:(k:Int)<(n:Int):=by omega
     have g4:(0:Int)≤(k:Int):=by omega
     have hkl:k<l.length:=by have:=HN.out;omega
     have HS2k:=YJ (HS2i k hkl).out
     have hPl:(TH l (x,y,z) i k).length≤1000:=qaD (HLn i k).out (by omega)
     by_cases hki:k=i
     ·have HS2':TH l (x,y,z) i (k+1)=TH l (x,y,z) i k:=by rw[HS2k.out,if_neg (by simp[hki])]
      have gk:((k:Int)!=(i:Int))=false:=by simp[hki]
      clear HS2k HS2i HBi HX4 HLn
      generalize TH l (x,y,z) i k=P at*
      go_wp2
      refine wqf fun u=> ?_
      go_wp2
      go_roundw
      case rel=>exact⟨k+1,by omega,by go_num,fB hbw u.below,YJ (by rw[HS2'];exact au HP.out u.below)⟩
      simp[intOf];try omega
     ·have gk:((k:Int)!=(i:Int))=true:=by simp;omega
      obtain⟨sv,e0,hs⟩:=HX4.out i hil
      obtain⟨tv,e1,ht⟩:=HX4.out k hkl
      have hbVw:=fB hbV hbw
      have e0:=ab hbVw e0
      have e1:=ab hbVw e1
      have ze:=qaC wr _ e0
      have ze1:=qaC wr _ e1
      simp only at ze ze1
      obtain⟨w0,w1,w2,wf,wz⟩:=NO ((hbw.block _ (qaG (ah HW.out) hb.size)).trans ((hb.block _ (ah HW.out)).trans HW.out))
      have HC:=fun W' (h':Below W.heap.size W W')=>YJ (HBi k hkl sv tv W' (hs.below h') (ht.below h')).out
      clear hs ht HX4 HBi HS2i HLn
      generalize SG l[i] l[k] (x,y,z)=cb at*
      generalize TH l (x,y,z) i k=P at*
      go_wp2
      refine wqb ?_
      repeat(first|go_big_quiet_step ((go_at_call 99;exact aE ((HC _ (fB hbVw (Ext.below _))).out)))|quiet_step ((go_at_call 99;exact aE ((HC _ (fB hbVw (Ext.below _))).out))))
      refine wqn fun u=> ?_
      clear HC e0 e1 ze ze1 w0 w1 w2 wf wz
      have hbu:=fB hbw u.below
      have HPu:=YJ (au HP.out u.below)
      generalize u.val=w5 at*
      clear u HP
      cases cb with
      |true=>
       have HS2':TH l (x,y,z) i (k+1)=P++[k]:=by rw[HS2k.out,if_pos (by simp[hki])]
       clear HS2k
       go_wp2_with (at_builtin;refine wpList_append_own _ rfl _ _ 34 rfl wo.heap.size 3 i0 (.int .i64 0) 1 8 Io Hi0.out.1 Hi0.out.2.1 Hi0.out.2.2.1 Hi0.out.2.2.2 rfl (by decide) _ P.length _ rfl ((HPu).out.alloc _) ⟨_,0,none⟩ 1 1 [.int .i64 k] rfl rfl ?c1 ?c2 ?c3 ?c4 ?c5 ?_)
       case c1=>
        intro jj uu hu
        rw[jY,aq (by simp) jj]
        simpa using hu
       case c2=>intro v hv;simp at hv;subst hv;rfl
       case c3=>unfold maxLen;omega
       case c4=>omega
       case c5=>simp;have:=(hbu).size;omega
       intro v' w4 hown4 hg4 hu4
       have hb4:Below wo.heap.size wo w4:=((hbu).alloc (hbu).size _).grown hg4 (by simp;have:=(hbu).size;omega) (fun z hz=>by have:=((HPu).out.lt z hz).1;omega)
       have HO4:Hid (w4.ownsRow wo.heap.size 3 1 v' (TH l (x,y,z) i (k+1)).length ((TH l (x,y,z) i (k+1)).map iV)):=YJ (by rw[show TH l (x,y,z) i (k+1)=P++[k]from HS2',qaE,qgh];exact hown4)
       clear hown4 hg4 hu4
       obtain⟨va,vc,rfl⟩:=aT HO4.out
       clear HPu
       go_wp2
       go_roundw
       case rel=>exact⟨k+1,by omega,by go_num,hb4,HO4⟩
       simp[intOf];try omega
      |false=>
       have HS2':TH l (x,y,z) i (k+1)=P:=by rw[HS2k.out,if_neg (by simp)]
       go_wp2
       go_roundw
       case rel=>exact⟨k+1,by omega,by go_num,hbu,YJ (by rw[HS2'];exact HPu.out)⟩
       simp[intOf];try omega
    ·obtain rfl:k=n:=by omega
     have HPn:Hid (OwnI wo.heap.size wr (.slice ra (TH l (x,y,z) i k).length rc) (UQ l (x,y,z) i)):=YJ (by rw[←HRg.out i];exact HP.out)
     have HO1:=YJ (au HO.out hbw)
     have HR1:=YJ (HR.out.imp fun _ _ h=>h.below hbw)
     have hb1:=fB hb hbw
     have zwr:=hb.size
     clear HS2i HBi HX4 HLn HP HO HR
     generalize(TH l (x,y,z) i k).length=rn at*
     generalize UQ l (x,y,z) i=rl at*
     have hbx:Below wr.heap.size wr (wr.alloc (.cells #[.slice ra rn rc] 34)):=bel
     have HOx:=YJ (au HO1.out hbx)
     have HNx:Hid ((wr.alloc (.cells #[.slice ra rn rc] 34)).heap[wr.heap.size]? =some (.cells #[.slice ra rn rc] 34 (0,0))):=YJ (ai rfl)
     have HRx:Hid (RowsP (OwnI V.heap.size (wr.alloc (.cells #[.slice ra rn rc] 34))) (vs++[.slice ra rn rc]) ((TF l (x,y,z)).take (i+1))):=YJ (by
      rw[HSi.out]
      exact RowsP.snoc (HR1.out.imp fun _ _ h=>h.below hbx) ((HPn.out.mono zwr).below hbx))
     have zw1:=hb1.size
     clear HO1 HR1 HPn
     go_wp2_with (at_builtin;refine fq _ rfl _ _ 46 rfl V.heap.size 34 i1 (.slice none 0 0) 1 24 VY Hi1.out.1 Hi1.out.2.1 Hi1.out.2.2.1 Hi1.out.2.2.2 rfl (by decide) _ i vs rfl HOx.out ⟨wr.heap.size,0,none⟩ 1 1 [.slice ra rn rc] rfl rfl ?c1 ?c2 ?c3 ?c4 ?c5 ?_)
     case c1=>
      intro j u hu
      rw[jY,bq HNx.out]
      simpa using hu
     case c2=>
      intro u hu
      simp at hu
      subst hu
      rfl
     case c3=>unfold maxLen;omega
     case c4=>omega
     case c5=>simp;omega
     intro v' w4 hown4 hg4 _
     have hb4:Below V.heap.size V w4:=(fB hb1 hbx).grown hg4 (by simp;omega) (fun z hz=>(HOx.out.lt z hz).1)
     have HR4:Hid (RowsP (OwnI V.heap.size w4) (vs++[.slice ra rn rc]) ((TF l (x,y,z)).take (i+1))):=YJ (HRx.out.imp fun _ _ h=>h.kept (T:=34) (by decide) hg4 (jC HOx.out))
     have HO4:=YJ hown4
     clear hown4 hg4 HOx HNx HRx hbx
     go_wp2
     go_roundw
     case rel=>exact⟨i+1,by omega,by go_num,hb4,_,HO4,HR4⟩
     simp[intOf];try omega
  ·obtain rfl:i=n:=by omega
   have HRn:=HR
   rw[HE.out]at HRn
   clear HX HS1 HS2 HB HR
   go_wp2
   go_ret
   refine⟨_,rfl,fB hV hb,vs, ?_,HRn.out.imp fun _ _ h=>h.mono zV⟩
   rw[HEl.out]
   exact AY HO.out zV
def gE (g:List (List Nat)) (j k:Nat):Bool:=(g.getD j []).contains k
theorem WD {g:List (List Nat)} {j:Nat} (h:j<g.length) (k:Nat):gE g j k=g[j].contains k:=by unfold gE;simp[List.getD,h]
theorem WA {l:List Nat} {i:Nat} (h:i<l.length):(nI l)[i]'(by rw[TO];exact h)=(l[i]:Int):=by unfold nI;simp
theorem NatV.at {w:World} {v:Value} {l:List Nat} (h:NatV w v l):∃a n c,v= .slice a n c∧l.length=n∧(0<n→∃b off,a=some ⟨b,off,none⟩∧∀i (h:i<l.length),w.cell? ⟨b,off+i,none⟩=some (.int .i64 (l[i]:Nat))):=by
 obtain⟨a,n,c,rfl,hn,_,hi⟩:=h
 rw[TO]at hn
 refine⟨a,n,c,rfl,hn,fun h0=> ?_⟩
 obtain⟨b,off,rfl,hx⟩:=hi h0
 exact⟨b,off,rfl,fun i h=>by have:=hx i (by rw[TO];exact h);rwa [WA h]at this⟩
theorem Vu (v:Value) (l:List Nat) (y:Nat) (W:World) (hl:l.length≤1000000) (h:NatV W v l):Calls Tryz.prog 48 #[v, .int .i64 y] W (fun e w'=>e= .returned (.bool (l.contains y))∧w'=W):=by
 have:=VO v (nI l) y W (by rw[TO];exact hl) h
 rw[Wm]at this
 exact this
theorem Wn (g:List (List Nat)) (j:Nat) (hj:j<g.length) (v:Value) (y:Nat) (W:World) (hl:g[j].length≤1000000) (h:NatV W v g[j]):Calls Tryz.prog 48 #[v, .int .i64 y] W (fun e w'=>e= .returned (.bool (gE g j y))∧w'=W):=by
 rw[WD hj]
 exact Vu v g[j] y W hl h
theorem Ys {E:Nat→Nat→Bool} {grp out:List Nat} {i m:Nat} (hi:i<out.length) (hm:m<(grp.filter fun y=> !out.contains y).length) (h:E out[i] (grp.filter fun y=> !out.contains y)[m]=true):WP E grp out=false:=by
 unfold WP
 rw[List.all_eq_false]
 refine⟨out[i],qaB hi, ?_⟩
 rw[Bool.not_eq_true,List.all_eq_false]
 exact⟨_,qaB hm,by rw[h];simp⟩
theorem Yp {E:Nat→Nat→Bool} {grp out:List Nat} (h:∀i m (hi:i<out.length) (hm:m<(grp.filter fun y=> !out.contains y).length),E out[i] (grp.filter fun y=> !out.contains y)[m]=false):WP E grp out=true:=by
 unfold WP
 rw[alsi]
 intro j hj
 obtain⟨i,hi,rfl⟩:=qaJ hj
 rw[alsi]
 intro y hy
 obtain⟨m,hm,rfl⟩:=qaJ hy
 rw[h i m hi hm]
 rfl
theorem XV (g:List (List Nat)) (grp out:List Nat) (gv pv ov:Value) (W:World) (hg:∀r∈g,r.length≤1000) (hpl:grp.length≤1000) (hol:out.length≤1000) (ho:∀j∈out,j<g.length) (h1:GrfV W gv g) (h2:NatV W pv grp) (h3:NatV W ov out):
  Calls Tryz.prog 63 #[gv,pv,ov] W (Ret W (.bool (WP (gE g) grp out))):=by
 have HWo:=fun W' (hb:Below W.heap.size W W')=>YJ (Vs pv ov (nI grp) (nI out) W' (by rw[TO];omega) (by rw[TO];omega) (h2.below hb) (h3.below hb))
 have HHas:=fun j (h:j<g.length) v y W' (k:NatV W' v g[j])=>YJ (Wn g j h v y W' (by have:=hg _ (qaB h);omega) k)
 have HY:=YJ (@Yp (gE g) grp out)
 have HNo:=fun i m (hi:i<out.length) hm=>YJ (@Ys (gE g) grp out i m hi hm)
 have HOl:=fun i (hi:i<out.length)=>YJ (ho _ (qaB hi))
 obtain⟨ga,gn,gc,rfl,hgn, -,hgx⟩:=h1
 obtain⟨oa,on,oc,rfl,hon,hox⟩:=h3.at
 obtain⟨pa,pn,pc,rfl, -⟩:=h2.at
 have Hon:=YJ hon
 have HG:=YJ hgx
 have HGn:=YJ hgn
 have HO:=YJ hox
 have hl1:(grp.filter fun y=> !out.contains y).length≤1000:=qaD (qdz _ _) hpl
 have Hw:Hid (Ug (nI grp) (nI out)=nI (grp.filter fun y=> !out.contains y)):=YJ (VV _ _)
 rw[Hw.out]at HWo
 clear hgx hgn hox h2 h3 hg ho hpl Hw
 generalize WP (gE g) grp out=res at*
 generalize(grp.filter fun y=> !out.contains y)=rest at*
 rw[hon]at hol
 clear hon
 go_enter Tryz.func63,Tryz.ntmps63
 go_wp2_with fail
 refine((HWo _ bel).out).mono ?_
 rintro e w1 ⟨rv,rfl,hb1,hr1⟩
 have hR1:NatV w1 rv rest:=jy hr1
 have hbw1:Below W.heap.size W w1:=by first|exact hb1|exact fB bel hb1
 obtain⟨ra,rn,rc,rfl,hrn,hrx⟩:=hR1.at
 have HR:=YJ hrx
 have Hrn:=YJ hrn
 rw[hrn]at hl1
 clear hrn
 clear HWo hr1 hR1 hrx hb1
 go_wp2
 go_loopw [8] (fun x wr=>∃i:Nat,i≤on∧x= .int .i64 i∧Below w1.heap.size w1 wr∧Hid (∀j m (hj:j<out.length) (hm:m<rest.length),j<i→gE g out[j] rest[m]=false)) (fun x _=>on-(intOf x).toNat)
 case atStart=>exact⟨0,by omega,rfl,brf,YJ (fun j m _ _ h=>by omega)⟩
 case round=>
  obtain⟨i,hi,rfl,hb,Hd⟩:=hrel
  by_cases hlt:i<on
  ·have g1:(i:Int)<(on:Int):=by omega
   have g2:(0:Int)≤(i:Int):=by omega
   have hil:i<out.length:=by have:=Hon.out;omega
   obtain⟨ob,ooff,rfl,hox⟩:=HO.out (by omega)
   have e0:=hox i hil
   have hj:=(HOl i hil).out
   have hgn0:out[i]<gn:=by have:=HGn.out;omega
   have HGx:=YJ (hj)
   obtain⟨gb,goff,rfl,hgx⟩:=HG.out (by omega)
   obtain⟨rowv,e1,hrow⟩:=hgx out[i] hj
   have HNi:=fun m hm=>YJ (HNo i m hil hm).out
   have Hst:Hid ((∀m (hm:m<rest.length),gE g out[i] rest[m]=false)→∀j m (hj:j<out.length) (hm:m<rest.length),j<i+1→gE g out[j] rest[m]=false):=YJ (fun h j m hj hm hji=>by
    by_cases e:j=i
    ·subst e;exact h m hm
    ·exact Hd.out j m hj hm (by omega))
   have HHi:=fun v y W' (k:NatV W' v g[out[i]])=>YJ (HHas out[i] hj v y W' k).out
   have HRow:=YJ hrow
   clear HO HOl HG hox hgx HNo HHas Hd HY hrow
   have hbW:=fB hbw1 hb
   obtain⟨wo,rfl⟩:∃wo:World,wo=wr:=⟨_,rfl⟩
   go_wp2
   go_loopw [9] (fun x wr=>∃m:Nat,m≤rn∧x= .int .i64 m∧Below wo.heap.size wo wr∧Hid (∀q (hq:q<rest.length),q<m→gE g out[i] rest[q]=false)) (fun x _=>rn-(intOf x).toNat)
   case atStart=>exact⟨0,by omega,rfl,brf,YJ (fun q _ h=>by omega)⟩
   case round=>
    obtain⟨m,hm,rfl,hbw,Hd⟩:=hrel
    by_cases hmr:m<rn
    ·have g3:(m:Int)<(rn:Int):=by omega
     have g4:(0:Int)≤(m:Int):=by omega
     have hml:m<rest.length:=by have:=Hrn.out;omega
     obtain⟨rb,roff,rfl,hrx⟩:=HR.out (by omega)
     have hbWw:=fB hbW hbw
     have f0:=ab hbWw e0
     have f1:=ab hbWw e1
     have f2:=ab (fB hb hbw) (hrx m hml)
     have z0:=qaC wr _ f0
     have z1:=qaC wr _ f1
     have z2:=qaC wr _ f2
     simp only at z0 z1 z2
     have HNm:=YJ (HNi m hml).out
     have HC:=fun W' (h':Below W.heap.size W W')=>YJ (HHi rowv rest[m] W' (HRow.out.below h')).out
     have Hs2:Hid (gE g out[i] rest[m]=false→∀q (hq:q<rest.length),q<m+1→gE g out[i] rest[q]=false):=YJ (fun h q hq hqm=>by
      by_cases e:q=m
      ·subst e;exact h
      ·exact Hd.out q hq (by omega))
     obtain⟨rwa,rwn,rwc,hrwv, -⟩:=HRow.out.at
     subst hrwv
     clear HR hrx HNi HHi Hd Hst
     generalize gE g out[i] rest[m]=cb at*
     generalize g[out[i]]=row at*
     generalize out[i]=jj at*
     generalize rest[m]=yy at*
     have g5:(jj:Int)<(gn:Int):=by omega
     have g6:(0:Int)≤(jj:Int):=by omega
     go_wp2
     refine wqb ?_
     repeat(first|go_big_quiet_step ((go_at_call 48;refine((HC _ (fB hbWw (Ext.below _))).out).mono ?_;rintro e w9 ⟨rfl,rfl⟩;exact⟨rfl,_,rfl⟩))|quiet_step ((go_at_call 48;refine((HC _ (fB hbWw (Ext.below _))).out).mono ?_;rintro e w9 ⟨rfl,rfl⟩;exact⟨rfl,_,rfl⟩)))
     refine wqn fun u=> ?_
     have hbu:=fB hbw u.below
     cases cb with
     |true=>
      obtain rfl:=HNm.out rfl
      go_wp2
      go_ret
      exact⟨by trivial,fB hbW hbu⟩
     |false=>
      go_wp2
      go_roundw
      case rel=>exact⟨m+1,by omega,by go_num,hbu,YJ (Hs2.out rfl)⟩
      simp[intOf];try omega
    ·obtain rfl:m=rn:=by omega
     have Hs3:=YJ (Hst.out (fun q hq=>Hd.out q hq (by have:=Hrn.out;omega)))
     clear HR HNi HHi Hd Hst
     go_wp2
     go_roundw
     case rel=>exact⟨i+1,by omega,by go_num,fB hb hbw,Hs3⟩
     simp[intOf];try omega
  ·obtain rfl:i=on:=by omega
   obtain rfl:=HY.out (fun j m hj hm=>Hd.out j m hj hm (by have:=Hon.out;omega))
   clear HO HG HR HNo HHas Hd HOl
   go_wp2
   go_ret
   exact⟨by trivial,fB hbw1 hb⟩
theorem BfsI.lt {E:Nat→Nat→Bool} {grp:List Nat} {n i G:Nat} {acc:List Nat} (h:BfsI E grp n i acc) (hn:n<G) (hg:∀y∈grp,y<G):∀y∈acc,y<G:=fun y hy=>by
 have:=h.rch y hy
 cases this with
 |base=>exact hn
 |step _ _ g=>exact hg _ g
theorem VP {f:Nat} {a:Array Value} {W:World} {b:Bool} (h:Calls Tryz.prog f a W (fun e w'=>e= .returned (.bool b)∧w'=W)):Calls Tryz.prog f a W (Ret W (.bool b)):=h.mono fun e w' k=>⟨k.1,by rw[k.2];exact brf⟩
def OwnGs (B:Nat) (w:World) (v:Value) (gs:List (List (List Nat))):Prop:=∃vs,w.ownsRow B 46 1 v gs.length vs∧RowsP (OwnG B w) vs gs
theorem OwnGs.below {B:Nat} {w w':World} {v:Value} {g:List (List (List Nat))} (h:OwnGs B w v g) (hb:Below w.heap.size w w'):OwnGs B w' v g:=by
 obtain⟨vs,h1,h2⟩:=h
 exact⟨vs,au h1 hb,h2.imp fun _ _ h=>h.below hb⟩
theorem OwnGs.gs {B:Nat} {w:World} {v:Value} {g:List (List (List Nat))} (h:OwnGs B w v g):GsV w v g:=by
 obtain⟨vs,h1,h2⟩:=h
 exact Vt h1 rfl (h2.imp fun _ _ h=>h.grf)
def GsO (g:List (List (List Nat))) (W:World) (e:Ending) (w':World):Prop:=∃v,e= .returned v∧Below W.heap.size W w'∧OwnGs W.heap.size w' v g
theorem VF:(Tryz.prog.info? 46).map (fun i=>(i.zero,i.size,i.bytes))=some (some (.slice none 0 0),1,24):=by kernel_rfl
theorem VG:Tryz.prog.underlying 32=some (.slice 46):=by kernel_rfl
def Uh (l:List (List (List Q4))):List (List (List Nat)):=ways26.map (TF l)
theorem Uj (l:List (List (List Q4))):(Uh l).length=26:=by unfold Uh;rw[qdo];rfl
theorem Wc {l:List (List (List Q4))} {k:Nat} (h:k<ways26.length):(Uh l).take (k+1)=(Uh l).take k++[TF l ways26[k]]:=by
 unfold Uh
 rw[qaI (by rw[qdo];exact h),qdB]
theorem Vw (l:List (List (List Q4))) (lv:Value) (W:World) (hl:l.length≤1000) (hL:∀s∈l,s.length≤100∧∀c∈s,SI c) (h:SolsV W lv l):
  Calls Tryz.prog 14 #[lv] W (GsO (Uh l) W):=by
 obtain⟨i1,Hi1⟩:=qfT VF
 have HWy:=fun W'=>YJ (Gm W')
 have HGr:=fun k (hk:k<ways26.length) W' (hb:Below W.heap.size W W')=>YJ (VE l lv ways26[k].1 ways26[k].2.1 ways26[k].2.2 W' hl hL (by have:=Ef _ (qaB hk);unfold Tk;omega) (by
  have:=Ef _ (qaB hk)
  intro e
  injection e with e1 e2
  injection e2 with e2 e3
  omega) (h.below hb))
 have HS:=fun k (hk:k<ways26.length)=>YJ (@Wc l k hk)
 have HEl:=YJ (Uj l)
 have HE:Hid ((Uh l).take 26=Uh l):=YJ (by rw[←Uj l,qgi])
 obtain⟨la,n,lc,rfl, -⟩:=h
 have H26:Hid (ways26.length=26):=YJ rfl
 clear hl hL
 generalize Uh l=GS at*
 generalize ways26=WS at*
 go_enter Tryz.func14,Tryz.ntmps14
 go_wp2_with fail
 refine((HWy _).out).mono ?_
 rintro e w1 ⟨wv,rfl,hb1,ho1⟩
 have hw1:Below W.heap.size W w1:=by first|exact hb1|exact fB bel hb1
 have hq:=qcv ho1
 rw[H26.out]at ho1
 obtain⟨wa,wn,wc,rfl,hwn, -,hwx⟩:=hq
 have hwn':wn=26:=by rw[←hwn];exact H26.out
 subst hwn'
 have HX:=YJ hwx
 clear HWy ho1 hb1 hwx hwn
 go_wp2
 go_loopw [3,5] (fun s x wr=>∃k:Nat,k≤26∧x= .int .i64 k∧Below w1.heap.size w1 wr∧∃vs,Hid (wr.ownsRow w1.heap.size 46 1 s k vs)∧Hid (RowsP (OwnG w1.heap.size wr) vs (GS.take k))) (fun _ x _=>26-(intOf x).toNat)
 case atStart=>exact⟨0,by omega,rfl,brf,[],YJ (qds _ _ _ _),YJ (by rw[qdu];exact RowsP.nil)⟩
 case round=>
  obtain⟨k,hk,rfl,hb,vs,HO,HR⟩:=hrel
  obtain⟨oa,oc,rfl⟩:=aT HO.out
  by_cases hlt:k<26
  ·have g1:(k:Int)<26:=by omega
   have g2:(0:Int)≤(k:Int):=by omega
   have hkl:k<WS.length:=by rw[H26.out];exact hlt
   obtain⟨b,off,rfl,hi⟩:=HX.out (by omega)
   obtain⟨c0,c1',c2'⟩:=(hi.below hb) k hkl
   have HSk:=YJ (HS k hkl).out
   have HC:=YJ (HGr k hkl wr (fB hw1 hb)).out
   clear HS HGr HX hi
   generalize WS[k]=u at*
   obtain⟨x,y,z⟩:=u
   simp only at c0 c1' c2'
   have z1:=qaC wr _ c0
   simp only at z1
   go_wp2_with fail
   refine(HC.out).mono ?_
   rintro e w2 ⟨v,rfl,hb2,hg2⟩
   obtain⟨a9,c9,rfl⟩:∃a c,v= .slice a (TF l (x,y,z)).length c:=by obtain⟨_,h,_⟩:=hg2;exact aT h
   clear HC c0 c1' c2' z1
   have HO1:=YJ (au HO.out hb2)
   have HR1:=YJ (HR.out.imp fun _ _ h=>h.below hb2)
   have hbw2:=fB hb hb2
   have HG2:=YJ (hg2.mono hb.size)
   clear HO HR hg2
   generalize(TF l (x,y,z)).length=rn at*
   generalize TF l (x,y,z)=rg at*
   have hbx:Below w2.heap.size w2 (w2.alloc (.cells #[.slice a9 rn c9] 46)):=bel
   have HOx:=YJ (au HO1.out hbx)
   have HNx:Hid ((w2.alloc (.cells #[.slice a9 rn c9] 46)).heap[w2.heap.size]? =some (.cells #[.slice a9 rn c9] 46 (0,0))):=YJ (ai rfl)
   have HRx:Hid (RowsP (OwnG w1.heap.size (w2.alloc (.cells #[.slice a9 rn c9] 46))) (vs++[.slice a9 rn c9]) (GS.take (k+1))):=YJ (by
    rw[HSk.out]
    exact RowsP.snoc (HR1.out.imp fun _ _ h=>h.below hbx) (HG2.out.below hbx))
   have zw1:=hbw2.size
   clear HO1 HR1 HG2
   go_wp2_with (at_builtin;refine fq _ rfl _ _ 32 rfl w1.heap.size 46 i1 (.slice none 0 0) 1 24 VG Hi1.out.1 Hi1.out.2.1 Hi1.out.2.2.1 Hi1.out.2.2.2 rfl (by decide) _ k vs rfl HOx.out ⟨w2.heap.size,0,none⟩ 1 1 [.slice a9 rn c9] rfl rfl ?c1 ?c2 ?c3 ?c4 ?c5 ?_)
   case c1=>
    intro j u hu
    rw[jY,bq HNx.out]
    simpa using hu
   case c2=>
    intro u hu
    simp at hu
    subst hu
    rfl
   case c3=>unfold maxLen;omega
   case c4=>omega
   case c5=>simp;omega
   intro v' w4 hown4 hg4 _
   have hb4:Below w1.heap.size w1 w4:=(fB hbw2 hbx).grown hg4 (by simp;omega) (fun z hz=>(HOx.out.lt z hz).1)
   have HR4:Hid (RowsP (OwnG w1.heap.size w4) (vs++[.slice a9 rn c9]) (GS.take (k+1))):=YJ (HRx.out.imp fun _ _ h=>h.kept (T:=46) (by decide) (by decide) hg4 (jC HOx.out))
   have HO4:=YJ hown4
   clear hown4 hg4 HOx HNx HRx hbx
   go_wp2
   go_roundw
   case rel=>exact⟨k+1,by omega,by go_num,hb4,_,HO4,HR4⟩
   simp[intOf];try omega
  ·obtain rfl:k=26:=by omega
   have HRn:=HR
   rw[HE.out]at HRn
   clear HX HS HGr HR
   go_wp2
   go_ret
   refine⟨_,rfl,fB hw1 hb,vs, ?_,HRn.out.imp fun _ _ h=>h.mono hw1.size⟩
   rw[HEl.out]
   exact AY HO.out hw1.size
theorem WF (l:List (List (List Q4))) (w:Q3):gE (TF l w)=rE l w:=by
 funext j k
 unfold gE rE
 congr 1
 unfold TF
 by_cases hj:j<l.length
 ·simp[List.getD,hj]
 ·have e:l.getD j []=[]:=by simp[List.getD,hj]
  unfold UQ
  rw[e]
  simp[List.getD,hj,SG]
theorem Ww (l:List (List (List Q4))) (w:Q3):∀r∈TF l w,r.length≤l.length:=fun r hr=>by
 unfold TF at hr
 obtain⟨i, -,rfl⟩:=altt.1 hr
 unfold UQ
 exact qaD (qdz _ _) (by simp)
def SplA (w:World) (b off:Nat) (s:Spl):Prop:=∃gv ov,w.cell? ⟨b,off,none⟩=some gv∧w.cell? ⟨b,off+1,none⟩=some ov∧w.cell? ⟨b,off+2,none⟩=some (.int .i64 s.2.2.1)∧w.cell? ⟨b,off+3,none⟩=some (.int .i64 s.2.2.2.1)∧w.cell? ⟨b,off+4,none⟩=some (.int .i64 s.2.2.2.2)∧Ints w gv s.1∧Ints w ov s.2.1
theorem SplA.below {w w':World} {b off:Nat} {s:Spl} (h:SplA w b off s) (hb:Below w.heap.size w w'):SplA w' b off s:=by
 obtain⟨gv,ov,h1,h2,h3,h4,h5,h6,h7⟩:=h
 exact⟨gv,ov,ab hb h1,ab hb h2,ab hb h3,ab hb h4,ab hb h5,h6.below hb,h7.below hb⟩
theorem XS (ps:List (List Bod)) (sb mb:Nat) (pv:Value) (W:World) (hl:ps.length≤12) (hS:W.heap[sb]? =some (.cells #[pv, .map (some mb)] 168 (0,0))) (hP:PtsV W pv ps):
  Calls Tryz.prog 39 #[.pointer (some ⟨sb,0,none⟩)] W (fun e w'=>e= .returned (.int .u64 ((2 ^ ps.length-1:Nat):Int))∧w'=W):=by
 obtain⟨a,n,c,rfl,hn, -, -⟩:=hP
 rw[hn]at hl ⊢
 clear hn
 obtain⟨s0,s1,sz⟩:=xv hS
 have hp:(2:Nat) ^ n<2 ^ 13:=Nat.pow_lt_pow_right (by decide) (by omega)
 have hp0:0<(2:Nat) ^ n:=Nat.two_pow_pos _
 have sh:IntKind.u64.wrap (2 ^ n)=((2 ^ n:Nat):Int):=by
  have e:((2:Int) ^ n)=((2 ^ n:Nat):Int):=by simp
  rw[IntKind.wrap_u64,e]
  generalize 2 ^ n=P at*
  omega
 have sh2:IntKind.u64.wrap (2 ^ ((n:Int).toNat))=((2 ^ n:Nat):Int):=sh
 have sb1:IntKind.u64.wrap (((2 ^ n:Nat):Int)-1)=((2 ^ n-1:Nat):Int):=by
  rw[IntKind.wrap_u64]
  generalize 2 ^ n=P at*
  omega
 have hn64:(n:Int)≤64:=by omega
 have hn64':n≤64:=by omega
 obtain⟨P,HP⟩:∃P:Nat,Hid (2 ^ n=P):=⟨_,YJ rfl⟩
 rw[HP.out]at sh sh2 sb1 ⊢
 go_enter Tryz.func39,Tryz.ntmps39
 go_wp2
 go_ret
 exact⟨by trivial,by trivial⟩
theorem Yt {G:List Nat} {grp out k:Nat} (hk:k<(lf out).length) (h:dN (G.getD (lf out)[k] 0&&& grp) out≠0):XM G grp out=false:=by
 unfold XM
 rw[List.all_eq_false]
 exact⟨_,qaB hk,by simpa using h⟩
theorem Yq {G:List Nat} {grp out:Nat} (h:∀k (hk:k<(lf out).length),dN (G.getD (lf out)[k] 0&&& grp) out=0):XM G grp out=true:=by
 unfold XM
 rw[alsi]
 intro n hn
 obtain⟨k,hk,rfl⟩:=qaJ hn
 simpa using h k hk
set_option maxRecDepth 100000 in
theorem Yk (G:List Nat) (out grp gb cap:Nat) (W:World) (hG:∀x∈G,x<4096) (hm:G.length≤12) (ho:out<2 ^ G.length) (hg:grp<4096) (hcap:G.length≤cap) (hat:GphAt W gb G) (hT:TabAt 3 Lib.deBruijn64tab W):
  Calls Tryz.prog 43 #[.slice (some ⟨gb,0,none⟩) G.length cap, .int .u64 out, .int .u64 grp] W (Ret W (.bool (XM G grp out))):=by
 have ho12:out<4096:=qaG ho (by have:=Nat.pow_le_pow_right (n:=2) (by decide) hm;simpa using this)
 have HLi:=YJ (ES out W ho12 hT)
 have HAt:=YJ hat
 have HGl:=fun i (h:i<G.length)=>YJ (hG _ (qaB h))
 have HGd:=fun i (h:i<G.length)=>YJ (show G.getD i 0=G[i] by simp[List.getD,h])
 have HEl:=YJ (fun k (hk:k∈lf out)=>Cz G.length out out ho12 ho k hk)
 have HNo:=fun k hk=>YJ (@Yt G grp out k hk)
 have HYe:=YJ (@Yq G grp out)
 have Hlen:Hid ((lf out).length≤4096):=YJ (qaD (BS out out) (by omega))
 generalize XM G grp out=res at*
 generalize lf out=l at*
 clear hG hat hT
 go_enter Tryz.func43,Tryz.ntmps43
 unfold ME at HLi
 go_wp2_with fail
 refine(HLi.out).mono ?_
 rintro e w1 ⟨v,rfl,hb1,hown⟩
 obtain⟨va,vc,rfl⟩:=aT hown
 obtain⟨N,HN⟩:∃N,Hid (l.length=N):=⟨_,YJ rfl⟩
 rw[HN.out]at Hlen
 have hNl:=Hlen.out
 have HRow:Hid (0<N→∃g cap,va=some ⟨g,0,none⟩∧vc=cap∧N≤cap∧∀i (hi:i<l.length),w1.cell? ⟨g,i,none⟩=some (.int .i64 (l[i]:Nat))):=YJ (fun h=>by
  obtain⟨g,cp,e,h1,_,_,h2⟩:=JK hown (by rw[HN.out];exact h)
  injection e with e1 e2 e3
  exact⟨g,cp,e1,e3,by rw[←HN.out];exact h1,h2⟩)
 rw[HN.out]
 clear HLi hown
 go_wp2
 go_loopw [12] (fun i wr=>∃k:Nat,k≤N∧i= .int .i64 k∧wr=w1∧Hid (∀j (hj:j<l.length),j<k→dN (G.getD l[j] 0&&& grp) out=0)) (fun i _=>N-(intOf i).toNat)
 case atStart=>exact⟨0,by omega,rfl,rfl,YJ (fun j _ h=>by omega)⟩
 case round=>
  obtain⟨k,hk,rfl,rfl,Hd⟩:=hrel
  by_cases hlt:k<N
  ·have g1:(k:Int)<(N:Int):=by omega
   have g2:(0:Int)≤(k:Int):=by omega
   have hkl:k<l.length:=by have:=HN.out;omega
   obtain⟨g,cp,rfl,rfl,hcp,hcl⟩:=HRow.out (by omega)
   have c0:=hcl k hkl
   have cz:=qaC wr _ c0
   simp only at cz
   have hin:=HEl.out l[k] (qaB hkl)
   have HNk:=YJ (HNo k hkl).out
   have Hst:Hid (dN (G.getD l[k] 0&&& grp) out=0→∀j (hj:j<l.length),j<k+1→dN (G.getD l[j] 0&&& grp) out=0):=YJ (fun h j hj hjk=>by
    by_cases e:j=k
    ·subst e;exact h
    ·exact Hd.out j hj (by omega))
   generalize l[k]=q at*
   have d0:=ab hb1 (HAt.out q hin)
   have dz:=qaC wr _ d0
   simp only at dz
   rw[(HGd q hin).out]at HNk Hst
   have hx12:=(HGl q hin).out
   have q1:(q:Int)<(G.length:Int):=by omega
   have q2:(0:Int)≤(q:Int):=by omega
   generalize G[q]=x at*
   have e1:=bits_and_u64_nat x grp (by omega) (by omega)
   have hle:x&&& grp<4096:=Nat.lt_of_le_of_lt Nat.and_le_left hx12
   have e2:=CT (x&&& grp) out (by omega) (by omega)
   clear HRow hcl hin HGl HGd HAt HNo HYe HEl Hd
   generalize x&&& grp=y at*
   generalize dN y out=r at*
   by_cases hr:r=0
   ·have hr':((r:Int)!=0)=false:=by simpa using hr
    go_wp2
    go_roundw
    case rel=>exact⟨k+1,by omega,by go_num,by first|trivial|rfl,YJ (Hst.out hr)⟩
    simp[intOf];try omega
   ·have hr':((r:Int)!=0)=true:=by simpa using hr
    obtain rfl:=HNk.out hr
    go_wp2
    go_ret
    exact⟨by trivial,hb1⟩
  ·obtain rfl:k=N:=by omega
   obtain rfl:=HYe.out (fun j hj=>Hd.out j hj (by have:=HN.out;omega))
   clear HRow HGl HGd HAt HNo HEl
   go_wp2
   go_ret
   exact⟨by trivial,hb1⟩
def psB (l:List (List (List Q4))):List (List Bod):=l.map (·.map bp)
theorem WM (l:List (List (List Q4))):(psB l).length=l.length:=qdo _
theorem XO {l:List (List (List Q4))} {lv:Value} (W:World) (h0:eB l=0) (h:SolsV W lv l):Calls Tryz.prog 38 #[lv] W (ScP (psB l) W):=
 Fe l lv W (fun s hs=>⟨(zZ ((sq h0).2 s hs)).1,qaD (zZ ((sq h0).2 s hs)).2 (by decide)⟩) (qaD (sq h0).1 (by decide)) h
theorem Yv {W:World} {mb:Nat} {Gf:Q3→List Nat} (k:OwM W mb 0 (.map [])):MapS W mb 0 (.map []) Gf:=⟨k,fun v _ hh=>by simp[Maps.has]at hh⟩
theorem WK (l:List (List (List Q4))) (v:Q3):(eM (psB l) v).length=l.length:=by simp[eM,psB]
theorem XZ {l:List (List (List Q4))} (h0:eB l=0) (v:Q3):∀x∈eM (psB l) v,x<4096:=fun x hx=>by
 obtain⟨i,_,rfl⟩:=altt.1 hx
 exact Ei _ _ _ _ (by rw[WM];exact(sq h0).1)
theorem qbX:∀n,n<12→lf (2 ^ n)=[n]:=by decide+kernel
theorem qbQ {n:Nat} (h:n<12):2 ^ n<4096:=Nat.pow_lt_pow_right (by decide) h
theorem qcM {v:Q3} (h:v∈ways26):v≠(0,0,0):=by
 intro e
 subst e
 revert h
 decide
def NX (n:Nat):Bool:=decide (n≤8) || (decide (16<n)&&decide (n≤20))
set_option maxRecDepth 100000 in
theorem QC (a:Option Addr) (n c:Nat) (W:World):Calls Tryz.prog 90 #[.agg #[.slice a n c]] W (Ret W (.bool (NX n))):=by
 obtain⟨r,HR⟩:∃r,Hid (NX n=r):=⟨_,YJ rfl⟩
 rw[HR.out]
 by_cases h8:n≤8
 ·have g1:(n:Int)≤8:=by omega
  obtain rfl:r=true:=by rw[←HR.out];unfold NX;rw[qfX h8];rfl
  clear HR
  go_enter Tryz.func90,Tryz.ntmps90
  go_wp2
  go_ret
  exact⟨ay (by simp),bel⟩
 ·have g1:¬(n:Int)≤8:=by omega
  by_cases h16:16<n
  ·have g2:(16:Int)<(n:Int):=by omega
   by_cases h20:n≤20
   ·have g3:(n:Int)≤20:=by omega
    obtain rfl:r=true:=by rw[←HR.out];unfold NX;rw[qfX h16,qfX h20];simp
    clear HR
    go_enter Tryz.func90,Tryz.ntmps90
    go_wp2
    go_ret
    exact⟨ay (by simp),bel⟩
   ·have g3:¬(n:Int)≤20:=by omega
    obtain rfl:r=false:=by rw[←HR.out];unfold NX;rw[qfZ h8,qfZ h20];simp
    clear HR
    go_enter Tryz.func90,Tryz.ntmps90
    go_wp2
    go_ret
    exact⟨ay (by simp),bel⟩
  ·have g2:¬(16:Int)<(n:Int):=by omega
   obtain rfl:r=false:=by rw[←HR.out];unfold NX;rw[qfZ h8,qfZ h16];simp
   clear HR
   go_enter Tryz.func90,Tryz.ntmps90
   go_wp2
   go_ret
   exact⟨ay (by simp),bel⟩
def Qh (m n:Nat):Bool:=decide (n≤m) || (decide (100<n)&&decide (n≤105))
def Oa (m:Nat) (css:List (List Q4)):Bool:=Qh m css.length&&css.all fun c=>NX c.length
set_option maxRecDepth 100000 in
theorem PQ (m:Nat) (css:List (List Q4)) (sv:Value) (W:World) (hm:m≤100) (hl:css.length≤maxLen) (h:SolV W sv css):
  Calls Tryz.prog 36 #[.agg #[sv], .int .i64 m] W (Ret W (.bool (Oa m css))):=by
 obtain⟨sa,n,sc,rfl,hn, -,hx⟩:=h
 have HX:=YJ hx
 have HN:=YJ hn
 have HSl:=fun a n c W'=>YJ (QC a n c W')
 have hn':n≤maxLen:=by omega
 have Hc0:Hid (Qh m n=false→Oa m css=false):=YJ (fun h=>by unfold Oa;rw[hn,h];rfl)
 have Hhit:Hid (∀i (hi:i<css.length),NX css[i].length=false→Oa m css=false):=YJ (fun i hi h=>by
  unfold Oa
  rw[Bool.and_eq_false_iff]
  refine .inr ?_
  rw[List.all_eq_false]
  exact⟨css[i],qaB hi,by simpa using h⟩)
 have Hall:Hid (Qh m n=true→(∀i (hi:i<css.length),NX css[i].length=true)→Oa m css=true):=YJ (fun h h2=>by
  unfold Oa
  rw[hn,h,Bool.true_and,alsi]
  intro c hc
  obtain⟨i,hi,rfl⟩:=qaJ hc
  exact h2 i hi)
 obtain⟨V,HV⟩:∃V,Hid (W.alloc (.cells #[.slice sa n sc] 75)=V):=⟨_,YJ rfl⟩
 have hV:Below W.heap.size W V:=by rw[←HV.out];exact bel
 have HA:Hid (V.heap[W.heap.size]? =some (.cells #[.slice sa n sc] 75 (0,0))):=YJ (by rw[←HV.out];exact ai rfl)
 have v0:V.cell? ⟨W.heap.size,0,none⟩=some (.slice sa n sc):=(bq HA.out 0).trans rfl
 have vz:=ah HA.out
 clear hx hn hl
 generalize Oa m css=res at*
 have key:∀g:Bool,Qh m n=g→Hid ((g=true→(n≤m∨100<n∧n≤105))∧(g=false→(m<n∧n≤100)∨105<n)):=fun g hg=>YJ (by
  unfold Qh at hg
  subst hg
  refine⟨fun h=> ?_,fun h=> ?_⟩
  ·simp only[qgf,qaF,qfV]at h;omega
  ·simp only[Bool.or_eq_false_iff,Bool.and_eq_false_iff,decide_eq_false_iff_not]at h;omega)
 obtain⟨g,hg⟩:∃g,Qh m n=g:=⟨_,rfl⟩
 have Hk:=key g hg
 rw[hg]at Hc0 Hall
 clear key hg
 cases g with
 |false=>
  have hr:=Hc0.out (by trivial)
  rcases Hk.out.2 (by trivial)with⟨k1,k2⟩|k1
  ·have g1:(m:Int)<(n:Int):=by omega
   have g2:(n:Int)≤100:=by omega
   clear Hc0 Hhit Hall Hk HX HSl
   go_enter Tryz.func36,Tryz.ntmps36
   go_wp2
   go_ret
   exact⟨by first|(rw[hr];rfl)|rfl,by rw[HV.out];exact hV⟩
  ·have g1:(m:Int)<(n:Int):=by omega
   have g2:¬(n:Int)≤100:=by omega
   have g3:(105:Int)<(n:Int):=by omega
   clear Hc0 Hhit Hall Hk HX HSl
   go_enter Tryz.func36,Tryz.ntmps36
   go_wp2
   go_ret
   exact⟨by first|(rw[hr];rfl)|rfl,by rw[HV.out];exact hV⟩
 |true=>
  have hk:=Hk.out.1 (by trivial)
  have g3:¬(105:Int)<(n:Int):=by omega
  have hn105:n≤105:=by omega
  by_cases hmn:n≤m
  ·have g4:¬(m:Int)<(n:Int):=by omega
   clear Hc0 Hk hk
   go_enter Tryz.func36,Tryz.ntmps36
   go_wp2
   try rw[HV.out]
   clear HV
   go_loopw [5] (fun x wr=>∃k:Nat,k≤n∧x= .int .i64 k∧Below V.heap.size V wr∧Hid (∀i (hi:i<css.length),i<k→NX css[i].length=true)) (fun x _=>n-(intOf x).toNat)
   case atStart=>exact⟨0,by omega,rfl,brf,YJ (fun i _ h=>by omega)⟩
   case round=>
    obtain⟨k,hk,rfl,hb,Hd⟩:=hrel
    have r0:=ab hb v0
    have rz:=qaG vz hb.size
    by_cases hlt:k<n
    ·have g1:(k:Int)<(n:Int):=by omega
     have g2:(0:Int)≤(k:Int):=by omega
     have hil:k<css.length:=by have:=HN.out;omega
     obtain⟨b,off,rfl,hi4⟩:=HX.out (by omega)
     obtain⟨pv,e0,hs⟩:=hi4 k hil
     have e0:=ab (fB hV hb) e0
     have ze:=qaC wr _ e0
     simp only at ze
     obtain⟨pa,pn,pc,rfl,hpn, -⟩:=hs
     have HS:=fun W'=>YJ (HSl pa pn pc W').out
     have Hh:=YJ (Hhit.out k hil)
     have Hst:Hid (NX css[k].length=true→∀i (hi:i<css.length),i<k+1→NX css[i].length=true):=YJ (fun h i hi hik=>by
      by_cases e:i=k
      ·subst e;exact h
      ·exact Hd.out i hi (by omega))
     rw[hpn]at Hh Hst
     clear hpn hi4 HX Hhit Hall Hd HSl v0 vz
     generalize NX pn=sl at*
     go_wp2_with fail
     refine((HS _).out).mono ?_
     rintro e w2 ⟨rfl,hb2⟩
     cases sl with
     |true=>
      have HF:=YJ (Hst.out rfl)
      clear HS Hh Hst
      go_wp2
      go_roundw
      case rel=>exact⟨k+1,by omega,by go_num,fB hb hb2,HF⟩
      simp[intOf];try omega
     |false=>
      have hr:=Hh.out rfl
      have hw:=fB (fB hV hb) hb2
      clear HS Hh Hst
      go_wp2
      go_ret
      exact⟨by first|(rw[hr];rfl)|rfl,hw⟩
    ·obtain rfl:n=k:=by omega
     have hr:=Hall.out (by trivial) (fun i hi=>Hd.out i hi (by have:=HN.out;omega))
     have hw:=fB hV hb
     clear HX Hhit Hall Hd HSl
     go_wp2
     go_ret
     exact⟨by first|(rw[hr];rfl)|rfl,hw⟩
  ·have g4:(m:Int)<(n:Int):=by omega
   have g5:¬(n:Int)≤100:=by omega
   clear Hc0 Hk hk
   go_enter Tryz.func36,Tryz.ntmps36
   go_wp2
   try rw[HV.out]
   clear HV
   go_loopw [5] (fun x wr=>∃k:Nat,k≤n∧x= .int .i64 k∧Below V.heap.size V wr∧Hid (∀i (hi:i<css.length),i<k→NX css[i].length=true)) (fun x _=>n-(intOf x).toNat)
   case atStart=>exact⟨0,by omega,rfl,brf,YJ (fun i _ h=>by omega)⟩
   case round=>
    obtain⟨k,hk,rfl,hb,Hd⟩:=hrel
    have r0:=ab hb v0
    have rz:=qaG vz hb.size
    by_cases hlt:k<n
    ·have g1:(k:Int)<(n:Int):=by omega
     have g2:(0:Int)≤(k:Int):=by omega
     have hil:k<css.length:=by have:=HN.out;omega
     obtain⟨b,off,rfl,hi4⟩:=HX.out (by omega)
     obtain⟨pv,e0,hs⟩:=hi4 k hil
     have e0:=ab (fB hV hb) e0
     have ze:=qaC wr _ e0
     simp only at ze
     obtain⟨pa,pn,pc,rfl,hpn, -⟩:=hs
     have HS:=fun W'=>YJ (HSl pa pn pc W').out
     have Hh:=YJ (Hhit.out k hil)
     have Hst:Hid (NX css[k].length=true→∀i (hi:i<css.length),i<k+1→NX css[i].length=true):=YJ (fun h i hi hik=>by
      by_cases e:i=k
      ·subst e;exact h
      ·exact Hd.out i hi (by omega))
     rw[hpn]at Hh Hst
     clear hpn hi4 HX Hhit Hall Hd HSl v0 vz
     generalize NX pn=sl at*
     go_wp2_with fail
     refine((HS _).out).mono ?_
     rintro e w2 ⟨rfl,hb2⟩
     cases sl with
     |true=>
      have HF:=YJ (Hst.out rfl)
      clear HS Hh Hst
      go_wp2
      go_roundw
      case rel=>exact⟨k+1,by omega,by go_num,fB hb hb2,HF⟩
      simp[intOf];try omega
     |false=>
      have hr:=Hh.out rfl
      have hw:=fB (fB hV hb) hb2
      clear HS Hh Hst
      go_wp2
      go_ret
      exact⟨by first|(rw[hr];rfl)|rfl,hw⟩
    ·obtain rfl:n=k:=by omega
     have hr:=Hall.out (by trivial) (fun i hi=>Hd.out i hi (by have:=HN.out;omega))
     have hw:=fB hV hb
     clear HX Hhit Hall Hd HSl
     go_wp2
     go_ret
     exact⟨by first|(rw[hr];rfl)|rfl,hw⟩
def Qi (n:Nat):Bool:=decide (n≤4) || (decide (12<n)&&decide (n≤15))
def Ow (l:List (List (List Q4))):Bool:=Qi l.length&&l.all fun s=>Oa 2 s
set_option maxRecDepth 100000 in
theorem QD (l:List (List (List Q4))) (lv:Value) (W:World) (hl:l.length≤maxLen) (hL:∀s∈l,s.length≤maxLen) (h:SolsV W lv l):
  Calls Tryz.prog 8 #[lv] W (Ret W (.bool (Ow l))):=by
 obtain⟨la,n,lc,rfl,hn, -,hx⟩:=h
 have HX:=YJ hx
 have HN:=YJ hn
 have HLn:=fun i (h:i<l.length)=>YJ (hL _ (qaB h))
 have hn':n≤maxLen:=by omega
 have Hc0:Hid (Qi n=false→Ow l=false):=YJ (fun h=>by unfold Ow;rw[hn,h];rfl)
 have Hhit:Hid (∀i (hi:i<l.length),Oa 2 l[i]=false→Ow l=false):=YJ (fun i hi h=>by
  unfold Ow
  rw[Bool.and_eq_false_iff]
  refine .inr ?_
  rw[List.all_eq_false]
  exact⟨l[i],qaB hi,by simpa using h⟩)
 have Hall:Hid (Qi n=true→(∀i (hi:i<l.length),Oa 2 l[i]=true)→Ow l=true):=YJ (fun h h2=>by
  unfold Ow
  rw[hn,h,Bool.true_and,alsi]
  intro c hc
  obtain⟨i,hi,rfl⟩:=qaJ hc
  exact h2 i hi)
 clear hx hn hl hL
 generalize Ow l=res at*
 have key:∀g:Bool,Qi n=g→Hid ((g=true→(n≤4∨12<n∧n≤15))∧(g=false→(4<n∧n≤12)∨15<n)):=fun g hg=>YJ (by
  unfold Qi at hg
  subst hg
  refine⟨fun h=> ?_,fun h=> ?_⟩
  ·simp only[qgf,qaF,qfV]at h;omega
  ·simp only[Bool.or_eq_false_iff,Bool.and_eq_false_iff,decide_eq_false_iff_not]at h;omega)
 obtain⟨g,hg⟩:∃g,Qi n=g:=⟨_,rfl⟩
 have Hk:=key g hg
 rw[hg]at Hc0 Hall
 clear key hg
 cases g with
 |false=>
  have hr:=Hc0.out (by trivial)
  rcases Hk.out.2 (by trivial)with⟨k1,k2⟩|k1
  ·have g1:(4:Int)<(n:Int):=by omega
   have g2:(n:Int)≤12:=by omega
   clear Hc0 Hhit Hall Hk HX HLn
   go_enter Tryz.func8,Tryz.ntmps8
   go_wp2
   go_ret
   exact⟨by first|(rw[hr];rfl)|rfl,brf⟩
  ·have g1:(4:Int)<(n:Int):=by omega
   have g2:¬(n:Int)≤12:=by omega
   have g3:(15:Int)<(n:Int):=by omega
   clear Hc0 Hhit Hall Hk HX HLn
   go_enter Tryz.func8,Tryz.ntmps8
   go_wp2
   go_ret
   exact⟨by first|(rw[hr];rfl)|rfl,brf⟩
 |true=>
  have hk:=Hk.out.1 (by trivial)
  have g3:¬(15:Int)<(n:Int):=by omega
  have hn105:n≤15:=by omega
  by_cases hmn:n≤4
  ·have g4:¬(4:Int)<(n:Int):=by omega
   clear Hc0 Hk hk
   go_enter Tryz.func8,Tryz.ntmps8
   go_wp2
   go_loopw [3] (fun x wr=>∃k:Nat,k≤n∧x= .int .i64 k∧Below W.heap.size W wr∧Hid (∀i (hi:i<l.length),i<k→Oa 2 l[i]=true)) (fun x _=>n-(intOf x).toNat)
   case atStart=>exact⟨0,by omega,rfl,brf,YJ (fun i _ h=>by omega)⟩
   case round=>
    obtain⟨k,hk,rfl,hb,Hd⟩:=hrel
    by_cases hlt:k<n
    ·have g1:(k:Int)<(n:Int):=by omega
     have g2:(0:Int)≤(k:Int):=by omega
     have hil:k<l.length:=by have:=HN.out;omega
     obtain⟨b,off,rfl,hi4⟩:=HX.out (by omega)
     obtain⟨sv,e0,hs⟩:=hi4 k hil
     have e0:=ab hb e0
     have ze:=qaC wr _ e0
     simp only at ze
     have HS:Hid (Calls Tryz.prog 36 #[.agg #[sv], .int .i64 2] wr (Ret wr (.bool (Oa 2 l[k])))):=YJ (PQ 2 l[k] sv wr (by decide) (HLn k hil).out (hs.below hb))
     have Hh:=YJ (Hhit.out k hil)
     have Hst:Hid (Oa 2 l[k]=true→∀i (hi:i<l.length),i<k+1→Oa 2 l[i]=true):=YJ (fun h i hi hik=>by
      by_cases e:i=k
      ·subst e;exact h
      ·exact Hd.out i hi (by omega))
     obtain⟨sa,sn,sc,rfl, -⟩:=hs
     clear hi4 HX Hhit Hall Hd HLn
     generalize Oa 2 l[k]=sl at*
     go_wp2_with fail
     refine(HS.out).mono ?_
     rintro e w2 ⟨rfl,hb2⟩
     cases sl with
     |true=>
      have HF:=YJ (Hst.out rfl)
      clear HS Hh Hst
      go_wp2
      go_roundw
      case rel=>exact⟨k+1,by omega,by go_num,fB hb hb2,HF⟩
      simp[intOf];try omega
     |false=>
      have hr:=Hh.out rfl
      have hw:=fB hb hb2
      clear HS Hh Hst
      go_wp2
      go_ret
      exact⟨by first|(rw[hr];rfl)|rfl,hw⟩
    ·obtain rfl:n=k:=by omega
     have hr:=Hall.out (by trivial) (fun i hi=>Hd.out i hi (by have:=HN.out;omega))
     clear HX Hhit Hall Hd HLn
     go_wp2
     go_ret
     exact⟨by first|(rw[hr];rfl)|rfl,hb⟩
  ·have g4:(4:Int)<(n:Int):=by omega
   have g5:¬(n:Int)≤12:=by omega
   clear Hc0 Hk hk
   go_enter Tryz.func8,Tryz.ntmps8
   go_wp2
   go_loopw [3] (fun x wr=>∃k:Nat,k≤n∧x= .int .i64 k∧Below W.heap.size W wr∧Hid (∀i (hi:i<l.length),i<k→Oa 2 l[i]=true)) (fun x _=>n-(intOf x).toNat)
   case atStart=>exact⟨0,by omega,rfl,brf,YJ (fun i _ h=>by omega)⟩
   case round=>
    obtain⟨k,hk,rfl,hb,Hd⟩:=hrel
    by_cases hlt:k<n
    ·have g1:(k:Int)<(n:Int):=by omega
     have g2:(0:Int)≤(k:Int):=by omega
     have hil:k<l.length:=by have:=HN.out;omega
     obtain⟨b,off,rfl,hi4⟩:=HX.out (by omega)
     obtain⟨sv,e0,hs⟩:=hi4 k hil
     have e0:=ab hb e0
     have ze:=qaC wr _ e0
     simp only at ze
     have HS:Hid (Calls Tryz.prog 36 #[.agg #[sv], .int .i64 2] wr (Ret wr (.bool (Oa 2 l[k])))):=YJ (PQ 2 l[k] sv wr (by decide) (HLn k hil).out (hs.below hb))
     have Hh:=YJ (Hhit.out k hil)
     have Hst:Hid (Oa 2 l[k]=true→∀i (hi:i<l.length),i<k+1→Oa 2 l[i]=true):=YJ (fun h i hi hik=>by
      by_cases e:i=k
      ·subst e;exact h
      ·exact Hd.out i hi (by omega))
     obtain⟨sa,sn,sc,rfl, -⟩:=hs
     clear hi4 HX Hhit Hall Hd HLn
     generalize Oa 2 l[k]=sl at*
     go_wp2_with fail
     refine(HS.out).mono ?_
     rintro e w2 ⟨rfl,hb2⟩
     cases sl with
     |true=>
      have HF:=YJ (Hst.out rfl)
      clear HS Hh Hst
      go_wp2
      go_roundw
      case rel=>exact⟨k+1,by omega,by go_num,fB hb hb2,HF⟩
      simp[intOf];try omega
     |false=>
      have hr:=Hh.out rfl
      have hw:=fB hb hb2
      clear HS Hh Hst
      go_wp2
      go_ret
      exact⟨by first|(rw[hr];rfl)|rfl,hw⟩
    ·obtain rfl:n=k:=by omega
     have hr:=Hall.out (by trivial) (fun i hi=>Hd.out i hi (by have:=HN.out;omega))
     clear HX Hhit Hall Hd HLn
     go_wp2
     go_ret
     exact⟨by first|(rw[hr];rfl)|rfl,hb⟩
theorem QH {n:Nat} (h:NX n=true):n≤20:=by
 unfold NX at h
 simp only[qgf,qaF,qfV]at h
 omega
theorem QI {m:Nat} {s:List (List Q4)} (hm:m≤100) (h:Oa m s=true):s.length≤105∧∀c∈s,c.length≤20:=by
 unfold Oa Qh at h
 simp only[qgf,qaF,qfV,alsi]at h
 exact⟨by omega,fun c hc=>QH (h.2 c hc)⟩
theorem Ol {l:List (List (List Q4))} (h:Ow l=true):l.length≤15∧∀s∈l,s.length≤105∧∀c∈s,c.length≤20:=by
 unfold Ow Qi at h
 simp only[qgf,qaF,qfV,alsi]at h
 exact⟨by omega,fun s hs=>QI (by decide) (h.2 s hs)⟩
theorem We {l:List (List (List Q4))} (hf:Ow l=true) (h:eB l=0):∀s∈l,s.length≤100∧∀c∈s,SI c:=fun s hs=>by
 have h0:=(sq h).2 s hs
 refine⟨(xb h0).1,fun c hc=> ?_⟩
 have h1:=IL h0 c hc
 refine⟨h1, ?_⟩
 have h2:=(jx h1).1
 unfold Ow at hf
 rw[qaF,alsi]at hf
 have hf:=hf.2 s hs
 unfold Oa at hf
 rw[qaF,alsi]at hf
 have h3:=hf.2 c hc
 unfold NX at h3
 simp only[qgf,qaF,qfV]at h3
 omega
def qfp (K:Nat→Bool) (g o x:Nat):Bool:=if x=dN g o then true else if x=o then true else if x=g then false else K x
structure RelK (N:Nat) (K:Nat→Bool) (Ss:List Nat):Prop where
 lt:∀x∈Ss,x<2 ^ N
 ne:∀x∈Ss,x≠0
 dj:∀i j (hi:i<Ss.length) (hj:j<Ss.length),i≠j→∀k,¬(Ss[i].testBit k=true∧Ss[j].testBit k=true)
 mem:∀x,K x=true↔x∈Ss
def gl (x:Nat):List Int:=nI (lf x)
theorem RelK.next {N:Nat} {K:Nat→Bool} {Ss:List Nat} (h:RelK N K Ss) {i O:Nat} (hi:i<Ss.length) (hO0:O≠0) (hOG:dN O Ss[i]=0) (hne:O≠Ss[i]):RelK N (qfp K Ss[i] O) (Ss.set i O++[dN Ss[i] O]):=by
 have hO:∀k,O.testBit k=true→Ss[i].testBit k=true:=fun k hk=>by
  have:=congrArg (fun x=>x.testBit k) hOG
  simp only[Gh,hk,Nat.zero_testBit,Bool.true_and,Bool.not_eq_false']at this
  exact this
 have hR:∀k,(dN Ss[i] O).testBit k=true→Ss[i].testBit k=true∧O.testBit k=false:=fun k hk=>by
  rw[Gh,qaF]at hk
  exact⟨hk.1,by simpa using hk.2⟩
 have hlt:∀x,(∀k,x.testBit k=true→Ss[i].testBit k=true)→x<2 ^ N:=fun x hx=>
  Nat.lt_of_le_of_lt (Nat.le_of_testBit fun k hk=>hx k hk) (h.lt _ (qaB hi))
 have hR0:dN Ss[i] O≠0:=fun e=>hne (by
  apply qgp
  intro k
  have:=congrArg (fun x=>x.testBit k) e
  simp only[Gh,Nat.zero_testBit,Bool.and_eq_false_iff,Bool.not_eq_false']at this
  cases hg:Ss[i].testBit k with
  |true=>
   rcases this with e1|e1
   ·rw[hg]at e1;cases e1
   ·exact e1
  |false=>
   cases ho:O.testBit k with
   |false=>rfl
   |true=>rw[hO k ho]at hg;cases hg)
 have hmem:∀x,x∈Ss.set i O++[dN Ss[i] O]↔x=dN Ss[i] O∨x=O∨(x∈Ss∧x≠Ss[i]):=fun x=>by
  rw[altl,ultg]
  constructor
  ·rintro(hx|hx)
   ·obtain⟨j,hj,e⟩:=qaJ hx
    rw[List.getElem_set]at e
    have hj':j<Ss.length:=by simpa using hj
    split at e
    ·exact .inr (.inl e.symm)
    ·rename_i hij
     refine .inr (.inr ⟨e▸qaB hj',fun he=> ?_⟩)
     obtain⟨k,hk⟩:=Nat.exists_testBit_of_ne_zero (h.ne _ (qaB hi))
     exact h.dj i j hi hj' hij k ⟨hk,by rw[e,he];exact hk⟩
   ·exact .inl hx
  ·rintro(hx|hx|⟨hx,hxn⟩)
   ·exact .inr hx
   ·exact .inl (by rw[hx];exact List.mem_set hi O)
   ·obtain⟨j,hj,e⟩:=qaJ hx
    have hij:i≠j:=fun he=>hxn (by subst he;exact e.symm)
    refine .inl ?_
    have:(Ss.set i O)[j]'(by simpa using hj)=x:=by rw[List.getElem_set,if_neg hij];exact e
    rw[←this]
    exact qaB _
 refine⟨fun x hx=> ?_,fun x hx=> ?_, ?_,fun x=> ?_⟩
 ·rcases(hmem x).1 hx with rfl|rfl|⟨hx,_⟩
  ·exact hlt _ fun k hk=>(hR k hk).1
  ·exact hlt _ hO
  ·exact h.lt x hx
 ·rcases(hmem x).1 hx with rfl|rfl|⟨hx,_⟩
  ·exact hR0
  ·exact hO0
  ·exact h.ne x hx
 ·intro a b ha hb hab k hk
  obtain⟨h1,h2⟩:=hk
  rw[List.getElem_append]at h1 h2
  have la:a<Ss.length+1:=by simpa using ha
  have lb:b<Ss.length+1:=by simpa using hb
  by_cases ca:a<Ss.length
  ·rw[dif_pos (by simpa using ca),List.getElem_set]at h1
   by_cases cb:b<Ss.length
   ·rw[dif_pos (by simpa using cb),List.getElem_set]at h2
    by_cases ea:i=a
    ·rw[if_pos ea]at h1
     rw[if_neg (by omega)]at h2
     exact h.dj i b hi cb (by omega) k ⟨hO k h1,h2⟩
    ·rw[if_neg ea]at h1
     by_cases eb:i=b
     ·rw[if_pos eb]at h2
      exact h.dj i a hi ca ea k ⟨hO k h2,h1⟩
     ·rw[if_neg eb]at h2
      exact h.dj a b ca cb hab k ⟨h1,h2⟩
   ·rw[dif_neg (by simpa using cb)]at h2
    simp only[List.getElem_singleton]at h2
    by_cases ea:i=a
    ·rw[if_pos ea]at h1
     rw[(hR k h2).2]at h1
     cases h1
    ·rw[if_neg ea]at h1
     exact h.dj i a hi ca ea k ⟨(hR k h2).1,h1⟩
  ·rw[dif_neg (by simpa using ca)]at h1
   simp only[List.getElem_singleton]at h1
   have cb:b<Ss.length:=by omega
   rw[dif_pos (by simpa using cb),List.getElem_set]at h2
   by_cases eb:i=b
   ·rw[if_pos eb]at h2
    rw[(hR k h1).2]at h2
    cases h2
   ·rw[if_neg eb]at h2
    exact h.dj i b hi cb eb k ⟨(hR k h1).1,h2⟩
 ·rw[hmem]
  unfold qfp
  by_cases e1:x=dN Ss[i] O
  ·simp[e1]
  ·rw[if_neg e1]
   by_cases e2:x=O
   ·simp[e2]
   ·rw[if_neg e2]
    by_cases e3:x=Ss[i]
    ·rw[if_pos e3]
     simp[e1,e2,e3]
     exact⟨fun e=>e1 (e3.trans e),fun e=>e2 (e3.trans e)⟩
    ·rw[if_neg e3,h.mem]
     simp[e1,e2,e3]
theorem dN_zero {a b:Nat}:dN a b=0↔∀k,a.testBit k=true→b.testBit k=true:=by
 constructor
 ·intro h k hk
  have:=congrArg (fun x=>x.testBit k) h
  simp only[Gh,hk,Nat.zero_testBit,Bool.true_and,Bool.not_eq_false']at this
  exact this
 ·intro h
  apply qgp
  intro k
  rw[Gh,Nat.zero_testBit]
  cases ha:a.testBit k with
  |false=>rfl
  |true=>rw[h k ha];rfl
end
end Go.Proofs.YtffbilcjhlncfaaGreatDoor
