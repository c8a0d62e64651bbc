/- texts: BWB BWL O6 O7 O8 O9 O11 FG1 FG2 FG3 FG4 FG5 FG6 FG7 FG8 FGA FGB FGC. -/
import Derived.Test.YtnpmkepfpekhfaaGreatDoorGGS41
namespace Go.Proofs.YtnpmkepfpekhfaaGreatDoor
set_option maxHeartbeats 8000000
set_option linter.all false
section
open Go.RowKit Go.Shelf
set_option maxRecDepth 100000
attribute [local go_sem] Ext.cell Ext.frozen
def SwQ (L:List Q4) (W:World) (e:Ending) (w':World):Prop:=∃v,e= .returned v∧Below W.heap.size W w'∧w'.ownsRow W.heap.size 196 4 v L.length (L.flatMap aH)
def Tk (x y z:Int):Prop:=(-1≤x∧x≤1)∧(-1≤y∧y≤1)∧(-1≤z∧z≤1)
def SI (c:List Q4):Prop:=bK c=0∧c.length≤8
theorem Tl (ps:List Q4) (w:Q3) (x:Q4):(ps.flatMap (Rl w x)).length≤if 0<bj (nrm x) w then(bc ps w).length else 0:=by
 induction ps with
 |nil=>simp
 |cons y l ih=>
  rw[List.flatMap_cons,qaE]
  unfold bc at ih ⊢
  rw[List.filter_cons]
  unfold Rl at ih ⊢
  by_cases h1:0<bj (nrm x) w
  ·rw[if_pos h1]at ih ⊢
   by_cases h2:bj (nrm y) w<0
   ·rw[if_pos (decide_eq_true h2),List.length_cons]
    split
    ·simp only[List.length_singleton];omega
    ·simp only[List.length_nil];omega
   ·rw[if_neg (show ¬(decide (bj (nrm y) w<0)=true) by simpa using h2),if_neg (show ¬(0<bj (nrm x) w∧bj (nrm y) w<0∧nrm (kv x y w)≠(0,0,0))from fun h=>h2 h.2.1)]
    simp only[List.length_nil];omega
  ·rw[if_neg h1]at ih ⊢
   rw[if_neg (fun h=>h1 h.1)]
   simp only[List.length_nil];omega
theorem Tm (ps l:List Q4) (w:Q3):(l.flatMap fun x=>ps.flatMap (Rl w x)).length≤(cr l w).length*(bc ps w).length:=by
 induction l with
 |nil=>simp
 |cons x l ih=>
  rw[List.flatMap_cons,qaE]
  have h1:=Tl ps w x
  unfold cr at ih ⊢
  rw[List.filter_cons]
  by_cases h:0<bj (nrm x) w
  ·rw[if_pos h]at h1
   rw[if_pos (decide_eq_true h),List.length_cons,Nat.add_mul,Nat.one_mul]
   omega
  ·rw[if_neg h]at h1
   rw[if_neg (by simpa using h)]
   omega
theorem Tr (ps:List Q4) (w:Q3):(cr ps w).length+(bc ps w).length≤ps.length:=by
 induction ps with
 |nil=>simp[cr,bc]
 |cons x l ih=>
  unfold cr bc at ih ⊢
  rw[List.filter_cons,List.filter_cons,List.length_cons]
  by_cases h:0<bj (nrm x) w
  ·rw[if_pos (decide_eq_true h),if_neg (by rw[decide_eq_true_eq];omega),List.length_cons];omega
  ·rw[if_neg (by simpa using h)]
   split
   ·rw[List.length_cons];omega
   ·omega
theorem SO (ps:List Q4) (w:Q3) (h:ps.length≤8):(TD ps w).length≤24:=by
 unfold TD TE
 rw[List.take_length,qaE]
 have h1:=Tm ps ps w
 have h2:=Tr ps w
 have h3:(IH ps w).length≤ps.length:=List.length_filter_le _ _
 generalize(cr ps w).length=f at*
 generalize(bc ps w).length=b at*
 have h4:f*b≤16:=by
  have hf:f≤8:=by omega
  have hb:b≤8-f:=by omega
  have:f*b≤f*(8-f):=Nat.mul_le_mul_left f hb
  have h5:∀f,f≤8→f*(8-f)≤16:=by decide
  have:=h5 f hf
  omega
 omega
theorem Sk {c:List Q4} (h:∀p∈c,cI p):(∀p∈ch c,bI p)∧(ch c).length≤c.length:=by
 refine⟨fun q hq=> ?_, ?_⟩
 ·obtain⟨p,hp,rfl⟩:=(SH c h q).1 hq
  exact xJ p (h p (alsm.1 hp).1).1
 ·rw[xF c h]
  unfold iS Sp
  have h1:=WW (iP (iZ (aS c) c))
  have h2:(iP (iZ (aS c) c)).length=(iZ (aS c) c).length:=by unfold iP;simp
  have h3:=sk (aS c) c c.length
  rw[List.take_length]at h3
  omega
theorem SQ {ps:List Q4} {x y z:Int} (h:∀p∈ps,bI p) (hw:Tk x y z):∀q∈TD ps (x,y,z),okW q:=by
 intro q hq
 unfold TD at hq
 rcases List.mem_append.1 hq with hq|hq
 ·exact DW (h q (alsm.1 hq).1)
 ·obtain⟨a,ha,b,hb, -, -, -,rfl⟩:=mem_swpRi.1 hq
  exact Je _ (Jf a b (x,y,z) (h a ha) (h b hb) hw)
theorem look_ok {c d:List Q4} {x y z:Int} (hc:SI c) (hd:SI d) (hw:Tk x y z):(∀p∈TD (ch c) (x,y,z)++ch d,okW p)∧(TD (ch c) (x,y,z)++ch d).length≤32:=by
 have oc:=Sk (qV hc.1)
 have od:=Sk (qV hd.1)
 refine⟨fun p hp=> ?_, ?_⟩
 ·rcases List.mem_append.1 hp with hp|hp
  ·exact SQ oc.1 hw p hp
  ·exact DW (od.1 p hp)
 ·have h1:=SO (ch c) (x,y,z) (qaD oc.2 hc.2)
  have:=hd.2
  rw[qaE]
  omega
theorem ST {c:List Q4} {w:Q3} (h:bK c=0) (hw:w≠(0,0,0)):0<(TD (ch c) w).length:=by
 obtain⟨p,hp,h0⟩:=(Rv h).2.2.1 (Dy w) (fun h=>hw (by rw[←Dz w,h];rfl))
 have h1:bj (nrm p) w≤0:=by unfold bj Dy at h0;unfold bj;grind
 unfold TD
 rw[qaE]
 have:0<(IH (ch c) w).length:=List.length_pos_of_mem (alsm.2 ⟨hp,decide_eq_true h1⟩)
 omega
theorem SU {ps:List Q4} (h:∀p∈ps,okW p):∀c∈ct ps,okX c:=fun c hc=>by
 have hr:=((mc ps).2 c).1 hc
 obtain⟨p,hp,q,hq,r,hr',h0,e⟩:=YN (qaA _) hr
 have:=De p q r (h p hp) (h q hq) (h r hr') (by simpa [okB]using h0)
 unfold lD at this
 rw[if_neg h0]at this
 rw[e]
 exact this
theorem Tn {p q:List (List Q4)} {w:Q3} {i k:Nat} (hi:i<p.length) (hk:k<q.length) (h:rbk p[i] q[k] w=true):SG p q w=true:=by
 unfold SG
 rw[List.any_eq_true]
 exact⟨p[i],qaB hi,by rw[List.any_eq_true];exact⟨q[k],qaB hk,h⟩⟩
theorem Ts {p q:List (List Q4)} {w:Q3} (h:∀i k (hi:i<p.length) (hk:k<q.length),rbk p[i] q[k] w=false):SG p q w=false:=by
 unfold SG
 rw[List.any_eq_false]
 intro c hc
 obtain⟨i,hi,rfl⟩:=qaJ hc
 rw[Bool.not_eq_true,List.any_eq_false]
 intro d hd
 obtain⟨k,hk,rfl⟩:=qaJ hd
 rw[h i k hi hk]
 simp
def To (L:List Q4):Value→World→Prop:=fun v w=>∃x,v= .agg #[x]∧Q4s w x L
theorem Rj (L:List Q4):dR (To L):=fun _ _ _ hb ⟨x,h1,h2⟩=>⟨x,h1,Q4s.below h2 hb⟩
theorem SD (HSw:∀(ps:List Q4) (pv:Value) (x y z:Int) (W:World),(∀p∈ps,bI p)→ps.length≤16→Tk x y z→Q4s W pv ps→Calls Tryz.prog 103 #[.agg #[pv],V3 x y z] W (SwQ (TD ps (x,y,z)) W))
  (p q:List (List Q4)) (sv tv:Value) (x y z:Int) (W:World) (hp:∀c∈p,SI c) (hq:∀c∈q,SI c) (hpl:p.length≤100) (hql:q.length≤100) (hw:Tk x y z) (hw0:((x,y,z):Q3)≠(0,0,0)) (h1:SolV W sv p) (h2:SolV W tv q):
  Calls Tryz.prog 60 #[.agg #[sv], .agg #[tv],V3 x y z] W (Ret W (.bool (SG p q (x,y,z)))):=by
 obtain⟨i0,hi0,hz0,hz1,hz2⟩:=info_parts cY
 have Hi0:=YJ (And.intro hi0 (And.intro hz0 (And.intro hz1 hz2)))
 clear hi0 hz0 hz1 hz2
 obtain⟨sa,sn,sc,rfl,hsn, -,hsx⟩:=h1
 obtain⟨ta,tn,tc,rfl,htn, -,htx⟩:=h2
 obtain⟨V,HV⟩:∃V,Hid (((W.alloc (.cells #[.slice sa sn sc] 81)).alloc (.cells #[.slice ta tn tc] 81)).alloc (.cells #[.int .i64 x, .int .i64 y, .int .i64 z] 36)=V):=⟨_,YJ rfl⟩
 have hV:Below W.heap.size W V:=by rw[←HV.out];exact bel
 have HA:Hid (V.heap[W.heap.size]? =some (.cells #[.slice sa sn sc] 81 (0,0))):=YJ (by rw[←HV.out];exact(aB (by simp<;>omega)).trans ((aB (by simp)).trans (ai rfl)))
 have HB:Hid (V.heap[W.heap.size+1]? =some (.cells #[.slice ta tn tc] 81 (0,0))):=YJ (by rw[←HV.out];exact(aB (by simp)).trans (ai (by simp)))
 have HW:Hid (V.heap[W.heap.size+2]? =some (.cells #[.int .i64 x, .int .i64 y, .int .i64 z] 36 (0,0))):=YJ (by rw[←HV.out];exact ai (by simp))
 have HX:=YJ hsx
 have HY:=YJ htx
 have Hn:=YJ hsn
 have Hm:=YJ htn
 have hxl:sn≤100:=by omega
 have hyl:tn≤100:=by omega
 have HCa:=fun i (h:i<p.length)=>YJ (hp _ (qaB h))
 have HCb:=fun i (h:i<q.length)=>YJ (hq _ (qaB h))
 have Hhit:=fun i k (hi:i<p.length) (hk:k<q.length)=>YJ (@Tn p q (x,y,z) i k hi hk)
 have Hno:=YJ (@Ts p q (x,y,z))
 have HWb:=YJ hw
 have HSw':=YJ HSw
 clear hsx htx hsn htn hp hq hpl hql hw HSw
 generalize SG p q (x,y,z)=res at*
 go_enter Tryz.func60,Tryz.ntmps60
 go_wp2
 try rw[HV.out]
 go_loopw [7] (fun i wr=>∃k:Nat,k≤sn∧i= .int .i64 k∧Below V.heap.size V wr∧Hid (∀i j (hi:i<p.length) (hj:j<q.length),i<k→rbk p[i] q[j] (x,y,z)=false)) (fun i _=>sn-(intOf i).toNat)
 case atStart=>exact⟨0,by omega,rfl,brf,YJ (fun i j _ _ h=>by omega)⟩
 case round=>
  obtain⟨k,hk,rfl,hb,Hd⟩:=hrel
  have hAr:=(hb.block _ (ah HA.out)).trans HA.out
  have a0:wr.cell? ⟨W.heap.size,0,none⟩=some (.slice sa sn sc):=(ag hAr 0).trans rfl
  have az:=ah hAr
  obtain⟨w0,w1,w2,wf,wz⟩:=NO ((hb.block _ (ah HW.out)).trans HW.out)
  clear hAr
  by_cases hlt:k<sn
  ·have g1:(k:Int)<(sn:Int):=by omega
   have g2:(0:Int)≤(k:Int):=by omega
   have hil:k<p.length:=by have:=Hn.out;omega
   obtain⟨b0,off,rfl,hi4⟩:=HX.out (by omega)
   obtain⟨pv,e0,hq⟩:=hi4 k hil
   have e0:=ab (fB hV hb) e0
   have ze:=qaC wr _ e0
   simp only at ze
   have hsl:=(HCa k hil).out
   have okc:=qV hsl.1
   have okr:=Sk okc
   have HNr:=fun W' (hW':Below wr.heap.size wr W')=>YJ (pW p[k] pv W' okc (qaD hsl.2 (by decide)) ((hq.below (fB hV hb)).below hW'))
   have HSk:=fun v W' (hv:Q4s W' v (ch p[k]))=>YJ (HSw'.out (ch p[k]) v x y z W' okr.1 (qaD okr.2 (qaD hsl.2 (by decide))) HWb.out hv)
   obtain⟨pa,pn,pc,rfl, -⟩:=hq
   have HSl:=YJ hsl
   clear hi4 hsl okc okr
   unfold SwQ at HSk
   generalize hSS:TD (ch p[k]) (x,y,z)=SS at HSk
   have HSS:=YJ hSS
   clear hSS
   go_wp2
   apply aj [] [0,1,2,3,4,5,6,7,8,9] 10 [] [sv _,sv _,sv _,sv _,sv _,sv _,⟨OA wr.heap.size (ch p[k]),by first|exact Ox _|exact Pt _ _|exact Rj _⟩,⟨To (ch p[k]),by first|exact Ox _|exact Pt _ _|exact Rj _⟩,sv _,⟨OA wr.heap.size SS,by first|exact Ox _|exact Pt _ _|exact Rj _⟩] (by kernel_rfl) (by kernel_rfl)
   iterate 6 ((try go_frame);refine wkQ ?_)
   try go_frame
   refine wkU (fun u hR K hK=> ?_) (fun o6=> ?_)
   ·clear hR
    go_simp
    refine((HNr _ u.below).out).mono ?_
    rintro e w9 ⟨v9,rfl,hb9,ho9⟩
    exact hK _ _ hb9 (AY ho9 u.below.size)
   try go_frame
   refine wkU (fun u hR K hK=> ?_) (fun o7=> ?_)
   ·have h6:(OA wr.heap.size (ch p[k])) o6 u.val:=hr hR 6
    clear hR
    have H9:=YJ h6
    obtain⟨a9,c9,rfl⟩:=aT h6
    clear h6
    go_simp
    exact hK _ _ (brf) ⟨_,rfl,dV H9.out⟩
   ((try go_frame);refine wkQ ?_)
   try go_frame
   refine wkU (fun u hR K hK=> ?_) (fun o9=> ?_)
   ·have h7:To (ch p[k]) o7 u.val:=hr hR 7
    clear hR
    obtain⟨x9,rfl,hx9⟩:=h7
    go_simp
    refine((HSk _ _ hx9).out).mono ?_
    rintro e w9 ⟨v9,rfl,hb9,ho9⟩
    exact hK _ _ hb9 (AY ho9 u.below.size)
   try go_frame
   refine aI (fun u hR=> ?_)
   have ho:OA wr.heap.size SS o9 u.val:=hR 9 (by simp)
   have HO:=YJ ho
   have hbu:=u.below
   clear hR HNr HSk a0 az w0 w1 w2 wf wz e0 ze
   have hSS0:0<SS.length:=by rw[←HSS.out];exact ST HSl.out.1 hw0
   rcases id ho.2 with⟨_,hz⟩|⟨gs,oc,_,heo,_⟩
   ·omega
   subst heo
   clear ho
   generalize u.val=wq at*
   clear u
   simp only[oas]
   go_wp2
   refine NoPanic.normal ?_
   have hbV:=fB hb hbu
   go_wp2
   go_loopw [9] (fun jv wr=>∃j:Nat,j≤tn∧jv= .int .i64 j∧Below wq.heap.size wq wr∧Hid (∀m (hm:m<q.length),m<j→rbk p[k] q[m] (x,y,z)=false)) (fun jv _=>tn-(intOf jv).toNat)
   case atStart=>exact⟨0,by omega,rfl,brf,YJ (fun m _ h=>by omega)⟩
   case round=>
    have zq:=hbu.size
    obtain⟨wp0,hwp⟩:∃n0,n0=wr.heap.size:=⟨_,rfl⟩
    obtain⟨j,hj,rfl,hbj,Hdj⟩:=hrel
    have hbVj:=fB hbV hbj
    have hBr:=(hbVj.block _ (ah HB.out)).trans HB.out
    have b1:wr.cell? ⟨W.heap.size+1,0,none⟩=some (.slice ta tn tc):=(ag hBr 0).trans rfl
    have bz:=ah hBr
    clear hBr hwp wp0 zq
    by_cases hlj:j<tn
    ·have g3:(j:Int)<(tn:Int):=by omega
     have g4:(0:Int)≤(j:Int):=by omega
     have hjl:j<q.length:=by have:=Hm.out;omega
     obtain⟨b2,off2,rfl,hi5⟩:=HY.out (by omega)
     obtain⟨qv,f0,hr⟩:=hi5 j hjl
     have f0:=ab (fB hV hbVj) f0
     have zf:=qaC wr _ f0
     simp only at zf
     have hsd:=(HCb j hjl).out
     have okd:=qV hsd.1
     have HNd:=fun W' (hW':Below wr.heap.size wr W')=>YJ (pW q[j] qv W' okd (qaD hsd.2 (by decide)) ((hr.below (fB hV hbVj)).below hW'))
     have HOj:=YJ (au HO.out hbj)
     have hLk:=look_ok HSl.out hsd HWb.out
     rw[HSS.out]at hLk
     have hrl:0<(ch q[j]).length:=by
      obtain⟨o1,ho1, -⟩:=(Rv hsd.1).2.2.1 (1,0,0) (by simp)
      exact List.length_pos_of_mem ho1
     have HCl:Hid (rbk p[k] q[j] (x,y,z)=(SS++ch q[j]).all (gM (ct (SS++ch q[j])))):=YJ (by unfold rbk;rw[HSS.out])
     have HP:=fun v W' (h:Q4s W' v (SS++ch q[j]))=>YJ (SB (SS++ch q[j]) v W' hLk.1 (qaD hLk.2 (by decide)) h)
     have hpl:(ct (SS++ch q[j])).length≤300000:=Qc (qaD hLk.2 (by decide))
     have HI:=fun v cv W' (h:Q4s W' v (SS++ch q[j])) (h':Q4s W' cv (ct (SS++ch q[j])))=>YJ (SC (SS++ch q[j]) (ct (SS++ch q[j])) v cv W' hLk.1 (SU hLk.1) (qaD hLk.2 (by decide)) (by omega) h h')
     have hln:(SS++ch q[j]).length≤32:=hLk.2
     have Hh:=YJ ((Hhit k j hil hjl).out)
     have Hst:Hid (rbk p[k] q[j] (x,y,z)=false→∀m (hm:m<q.length),m<j+1→rbk p[k] q[m] (x,y,z)=false):=YJ (fun h m hm hmj=>by
      by_cases e:m=j
      ·subst e;exact h
      ·exact Hdj.out m hm (by omega))
     obtain⟨qa,qn,qc,rfl, -⟩:=hr
     rw[←HCl.out]at HI
     rw[qaE]at hln
     clear hi5 hsd okd HX HY Hhit Hno Hd Hdj HCa HCb HO HSl HSS HCl hLk HSw' HWb
     generalize rbk p[k] q[j] (x,y,z)=cl at*
     generalize hRD:ch q[j]=RD at*
     clear hRD
     generalize hcor:ct (SS++RD)=cor at*
     clear hcor
     go_wp2
     apply aj [] [0,1,2,3,4,5,6,7,8,9] 10 [11] [⟨QE wr.heap.size,by first|exact Ox _|exact Pt _ _|exact Rj _⟩,sv _,⟨OA wr.heap.size SS,by first|exact Ox _|exact Pt _ _|exact Rj _⟩,sv _,sv _,sv _,sv _,sv _,sv _,⟨OA wr.heap.size RD,by first|exact Ox _|exact Pt _ _|exact Rj _⟩] (by kernel_rfl) (by kernel_rfl)
     try go_frame
     refine wkU (fun u hR K hK=> ?_) (fun o0=> ?_)
     ·clear hR
      have zz:=u.below.size
      go_simp
      exact hK _ _ bel ⟨_,rfl,zz,ai rfl⟩
     ((try go_frame);refine wkQ ?_)
     try go_frame
     refine wkU (fun u hR K hK=> ?_) (fun o2=> ?_)
     ·have h0:QE wr.heap.size o0 u.val:=hr hR 0
      clear hR
      obtain⟨gm,rfl,hgm,hgl⟩:=h0
      have hOu:=au HOj.out u.below
      obtain⟨v9,w9,hrun,hown9,hb9⟩:=dM (P:=Tryz.prog) (w:=u.val) 165 165 196 i0 (v4 (0,0,0,0)) 4 32 Oc Hi0.out.1 Hi0.out.2.1 Hi0.out.2.2.1 Hi0.out.2.2.2 rfl (by decide) ⟨gm,0,none⟩ 0 0 [] rfl (fun _ _ h=>by simp at h) ⟨gs,0,none⟩ SS.length oc (SS.flatMap aH) (by rw[bh]) (World.ownsRow.cells hOu rfl) (by omega) (by unfold maxLen;omega) (by omega)
      exact cZ _ _ 165 rfl hrun (hK _ _ hb9 (show OA wr.heap.size SS v9 w9 from by have h9:=AY hown9 u.below.size;simp only[Nat.zero_add,List.nil_append]at h9;exact h9))
     iterate 6 ((try go_frame);refine wkQ ?_)
     try go_frame
     refine wkU (fun u hR K hK=> ?_) (fun o9=> ?_)
     ·clear hR
      go_simp
      refine((HNd _ u.below).out).mono ?_
      rintro e w9 ⟨v9,rfl,hb9,ho9⟩
      exact hK _ _ hb9 (AY ho9 u.below.size)
     try go_frame
     refine aI (fun u hR=> ?_)
     have h2:OA wr.heap.size SS o2 u.val:=hR 2 (by simp)
     have h9:OA wr.heap.size RD o9 u.val:=hR 9 (by simp)
     rcases id h9.2 with⟨_,hz⟩|⟨gd,cd,_,hed,_⟩
     ·omega
     subst hed
     have hbu2:=u.below
     have hs9:=World.ownsRow.cells h9 rfl
     clear hR b1 bz f0 zf HNd h9
     generalize u.val=w5 at*
     clear u
     simp only[oas]
     refine bn h2 hbu2 hbu2.size rfl hs9 _ _ rfl rfl rfl rfl (by omega) fun v6 w6 hown6 hb6=> ?_
     have HQ6:=YJ (dV hown6)
     obtain⟨va,vc,rfl⟩:=aT hown6
     generalize(SS++RD).length=nn at*
     clear h2 hs9 hown6 hbu2
     have HP6:=YJ ((HP _ w6 HQ6.out).out)
     clear HP HOj
     iterate 1 (refine wpList_step (fun K hK=> ?_);go_simp;refine hK _ _ ?_;clear hK K)
     refine NoPanic.normal ?_
     go_wp2_with fail
     refine HP6.out.mono ?_
     rintro e w7 ⟨cv,rfl,hb7,hc7⟩
     have HC7:=YJ (dV hc7)
     have HI7:=YJ ((HI _ cv w7 (HQ6.out.below hb7) HC7.out).out)
     obtain⟨ca,cc,rfl⟩:=aT hc7
     have hb67:=fB hb6 hb7
     clear HI hc7 HP6 HQ6 HC7
     generalize cor.length=cn at*
     go_wp2_with fail
     refine HI7.out.mono ?_
     rintro e w8 ⟨rfl,hb8⟩
     have hb68:=fB hb67 hb8
     cases cl with
     |true=>
      obtain rfl:=Hh.out rfl
      have hw8:=fB (fB hV hbVj) hb68
      clear HI7 Hh Hst
      go_wp2
      go_ret
      exact⟨ay (by simp),hw8⟩
     |false=>
      have HF:=YJ (Hst.out rfl)
      clear HI7 Hh Hst
      go_wp2
      go_roundw
      case rel=>exact⟨j+1,by omega,by go_num,fB hbj hb68,HF⟩
      case measure=>first|(simp[intOf];done)|(simp[intOf];omega)
    ·obtain rfl:j=tn:=by omega
     have Hd2:Hid (∀i j (hi:i<p.length) (hj:j<q.length),i<k+1→rbk p[i] q[j] (x,y,z)=false):=YJ (fun i m hi hm h=>by
      by_cases e:i=k
      ·subst e;exact Hdj.out m hm (by have:=Hm.out;omega)
      ·exact Hd.out i m hi hm (by omega))
     clear HX HY Hhit Hno HCa HCb HO HSl HSS HSw'
     go_wp2
     go_roundw
     case rel=>exact⟨k+1,by omega,by go_num,hbVj,Hd2⟩
     case measure=>first|(simp[intOf];done)|(simp[intOf];omega)
  ·obtain rfl:k=sn:=by omega
   have hT:=Hno.out (fun i j hi hj=>Hd.out i j hi hj (by have:=Hn.out;omega))
   subst hT
   have hw4:Below W.heap.size W wr:=fB hV hb
   clear HX HY Hhit Hno Hd HCa HCb HSw' HWb
   go_wp2
   go_ret
   exact⟨ay (by simp),hw4⟩
end
section
open Go.RowKit Go.Shelf
attribute [local go_sem] Ext.cell Ext.frozen
theorem SV {x y z:Int} (h:mK (x,y,z)=0):Tk x y z∧((x,y,z):Q3)≠(0,0,0):=by
 unfold mK at h
 simp only at h
 split at h
 ·rename_i hb
  split at h
  ·cases h
  ·rename_i hz
   exact⟨hb,fun e=>hz (by simp only[Prod.mk.injEq]at e;exact e)⟩
 ·cases h
end
section
open Go.RowKit
set_option maxRecDepth 100000
theorem TS:∀s,s<4096→av s=(List.range 12).filter (fun i=>s.testBit i):=by decide+kernel
theorem Tz {s n:Nat} (h:s<4096):n∈av s↔s.testBit n=true:=by
 rw[TS s h,alsm,List.mem_range]
 refine⟨fun h=>h.2,fun k=>⟨?_,k⟩⟩
 refine Nat.lt_of_not_le fun h12=> ?_
 have:s<2 ^ n:=qaG h (Nat.pow_le_pow_right (show 0<2 by omega) h12)
 rw[Nat.testBit_lt_two_pow this]at k
 cases k
theorem Wg (ps:List (List Bod)) (v:Q3) (i n k:Nat):(ks ps v i n).testBit k=(decide (k<n)&&(decide (i≠k)&&Cb ps v i k)):=by
 unfold ks
 induction n with
 |zero=>simp
 |succ n ih=>
  rw[List.range_succ,List.foldl_append]
  simp only[List.foldl_cons,List.foldl_nil]
  split
  ·rename_i h
   rw[Nat.testBit_or,ih,Nat.testBit_two_pow]
   by_cases e:n=k
   ·subst e;simp[h.1,h.2]
   ·have:decide (k<n+1)=decide (k<n):=by by_cases h:k<n<;>simp[h]<;>omega
    rw[this]
    simp[e]
  ·rename_i h
   rw[ih]
   by_cases e:n=k
   ·subst e
    have:(decide (i≠n)&&Cb ps v i n)=false:=by
     by_cases h1:i=n
     ·simp[h1]
     ·cases hb:Cb ps v i n with
      |false=>simp
      |true=>exact absurd ⟨h1,hb⟩ h
    rw[this]
    simp
   ·have:decide (k<n+1)=decide (k<n):=by by_cases h:k<n<;>simp[h]<;>omega
    rw[this]
theorem VS (G:List Nat) (grp:Nat) (l:List Nat) (k:Nat):(kn G grp l).testBit k=true↔grp.testBit k=true∧∃j∈l,(G.getD j 0).testBit k=true:=by
 unfold kn
 have key:∀(l:List Nat) (s:Nat),(l.foldl (fun s k=>s |||(G.getD k 0&&& grp)) s).testBit k=true↔s.testBit k=true∨(grp.testBit k=true∧∃j∈l,(G.getD j 0).testBit k=true):=by
  intro l
  induction l with
  |nil=>intro s;simp
  |cons x l ih=>
   intro s
   rw[List.foldl_cons,ih,Nat.testBit_or,Nat.testBit_and]
   simp only[Bool.or_eq_true,qaF,alsk,exists_eq_or_imp]
   constructor
   ·rintro((h|h)|h)
    ·exact .inl h
    ·exact .inr ⟨h.2, .inl h.1⟩
    ·exact .inr ⟨h.1, .inr h.2⟩
   ·rintro(h|⟨h,h1|h1⟩)
    ·exact .inl (.inl h)
    ·exact .inl (.inr ⟨h1,h⟩)
    ·exact .inr ⟨h,h1⟩
 rw[key]
 simp
inductive Rch (E:Nat→Nat→Prop) (grp:Nat→Prop) (n:Nat):Nat→Prop
 |base:Rch E grp n n
 |step {j k:Nat}:Rch E grp n j→E j k→grp k→Rch E grp n k
def Vf (G:List Nat) (j k:Nat):Prop:=(G.getD j 0).testBit k=true
theorem Vq (G:List Nat) (grp n:Nat) (hg:grp<4096):∀f out fr,out<4096→fr<4096→cM out fr≤f→out.testBit n=true→
  (∀k,out.testBit k=true→Rch (Vf G) (fun k=>grp.testBit k=true) n k)→(∀k,fr.testBit k=true→out.testBit k=true)→
  (∀j k,out.testBit j=true→fr.testBit j=false→Vf G j k→grp.testBit k=true→out.testBit k=true)→
  ∀k,(Ro G grp f out fr).testBit k=true↔Rch (Vf G) (fun k=>grp.testBit k=true) n k
 |0,out,fr,ho,hf,hm,hn,h1,h2,h3=>by
  have h0:fr=0:=Classical.byContradiction fun h0=>by unfold cM at hm;rw[if_neg h0]at hm;omega
  subst h0
  intro k
  rw[TN]
  refine⟨h1 k,fun h=> ?_⟩
  induction h with
  |base=>exact hn
  |step _ e g ih=>exact h3 _ _ ih (by simp) e g
 |f+1,out,fr,ho,hf,hm,hn,h1,h2,h3=>by
  intro k
  by_cases h0:fr=0
  ·subst h0
   rw[TN]
   refine⟨h1 k,fun h=> ?_⟩
   induction h with
   |base=>exact hn
   |step _ e g ih=>exact h3 _ _ ih (by simp) e g
  ·rw[Ro,if_neg h0]
   have hnx:=VS G grp (av fr)
   have hn2:kn G grp (av fr)<4096:=Oj G grp 12 hg _
   have ho2:out |||kn G grp (av fr)<4096:=Nat.or_lt_two_pow (n:=12) ho hn2
   have hd:=Gj (nx:=kn G grp (av fr)) h0 ho ho2
   have hdl:dN (kn G grp (av fr)) out<4096:=Nat.xor_lt_two_pow (n:=12) hn2 (Nat.lt_of_le_of_lt Nat.and_le_left hn2)
   refine Vq G grp n hg f _ (dN (kn G grp (av fr)) out) ho2 hdl (by omega) (by rw[Nat.testBit_or,hn];rfl) (fun k hk=> ?_) (fun k hk=> ?_) (fun j k hj hf2 he hg2=> ?_) k
   ·rw[Nat.testBit_or,Bool.or_eq_true]at hk
    rcases hk with hk|hk
    ·exact h1 k hk
    ·obtain⟨hk1,j,hj,hk2⟩:=(hnx k).1 hk
     exact .step (h1 j (h2 j ((Tz hf).1 hj))) hk2 hk1
   ·rw[Gh,qaF]at hk
    rw[Nat.testBit_or,hk.1,Bool.or_true]
   ·rw[Nat.testBit_or,Bool.or_eq_true]at hj ⊢
    rw[Gh]at hf2
    have hjo:out.testBit j=true:=by
     rcases hj with hj|hj
     ·exact hj
     ·rw[hj]at hf2;simpa using hf2
    cases hfj:fr.testBit j with
    |false=>exact .inl (h3 j k hjo hfj he hg2)
    |true=>exact .inr ((hnx k).2 ⟨hg2,j,(Tz hf).2 hfj,he⟩)
theorem VK (G:List Nat) (grp n:Nat) (hg:grp<4096) (hn:n<12) (k:Nat):(car G grp n).testBit k=true↔Rch (Vf G) (fun k=>grp.testBit k=true) n k:=by
 unfold car
 have h2:2 ^ n<4096:=qaG (Nat.pow_lt_pow_right (by decide) hn) (by decide)
 refine Vq G grp n hg 8193 _ _ h2 h2 (by unfold cM;have:=Nat.two_pow_pos n;split<;>omega) (by rw[Nat.testBit_two_pow];simp) (fun k hk=> ?_) (fun k hk=>hk) (fun j k hj hf=> ?_) k
 ·rw[Nat.testBit_two_pow]at hk
  have:n=k:=by simpa using hk
  subst this
  exact .base
 ·rw[hj]at hf
  cases hf
def Tw (E:Nat→Nat→Bool) (grp:List Nat) (x:Nat) (acc:List Nat):List Nat:=grp.foldl (fun acc y=>if E x y&& !acc.contains y then acc++[y]else acc) acc
def Um (E:Nat→Nat→Bool) (grp:List Nat):Nat→Nat→List Nat→List Nat
 |0,_,acc=>acc
 |f+1,i,acc=>if h:i<acc.length then Um E grp f (i+1) (Tw E grp acc[i] acc)else acc
theorem TP (E:Nat→Nat→Bool) (x:Nat):∀(grp acc:List Nat),acc.Nodup→(Tw E grp x acc).Nodup∧(∃t,Tw E grp x acc=acc++t)∧∀y,y∈Tw E grp x acc↔y∈acc∨(y∈grp∧E x y=true)
 | [],acc,h=>⟨h,⟨[],by simp[Tw]⟩,fun y=>by simp[Tw]⟩
 |z::grp,acc,h=>by
  have hs:Tw E (z::grp) x acc=Tw E grp x (if E x z&& !acc.contains z then acc++[z]else acc):=rfl
  rw[hs]
  by_cases hc:(E x z&& !acc.contains z)=true
  ·rw[if_pos hc]
   rw[qaF]at hc
   have hz:z ∉ acc:=by simpa using hc.2
   obtain⟨h1,⟨t,h2⟩,h3⟩:=TP E x grp (acc++[z]) (by rw[List.nodup_append];exact⟨h,by simp,fun a ha b hb e=>by simp at hb;subst hb;subst e;exact hz ha⟩)
   refine⟨h1,⟨z::t,by rw[h2];simp⟩,fun y=> ?_⟩
   rw[h3]
   simp only[List.mem_append,alsk,List.not_mem_nil,or_false]
   constructor
   ·rintro((h|rfl)|⟨h,k⟩)
    ·exact .inl h
    ·exact .inr ⟨.inl rfl,hc.1⟩
    ·exact .inr ⟨.inr h,k⟩
   ·rintro(h|⟨rfl|h,k⟩)
    ·exact .inl (.inl h)
    ·exact .inl (.inr rfl)
    ·exact .inr ⟨h,k⟩
  ·rw[if_neg hc]
   obtain⟨h1,h2,h3⟩:=TP E x grp acc h
   refine⟨h1,h2,fun y=> ?_⟩
   rw[h3]
   simp only[alsk]
   constructor
   ·rintro(h|⟨h,k⟩)
    ·exact .inl h
    ·exact .inr ⟨.inr h,k⟩
   ·rintro(h|⟨rfl|h,k⟩)
    ·exact .inl h
    ·refine .inl (Classical.byContradiction fun hn=>hc ?_)
     rw[k]
     simpa using hn
    ·exact .inr ⟨h,k⟩
end
section
open Go.RowKit
theorem Vi:∀(t l:List Nat),t.Nodup→(∀x∈t,x∈l)→t.length≤l.length
 | [],l,_,_=>by simp
 |a::t,l,hn,hs=>by
  rw[List.nodup_cons]at hn
  have ha:=hs a (by simp)
  have h:=Vi t (l.erase a) hn.2 (fun x hx=>(List.mem_erase_of_ne (fun e=>hn.1 (by rw[←e];exact hx))).2 (hs x (by simp[hx])))
  rw[List.length_erase_of_mem ha]at h
  have:=List.length_pos_of_mem ha
  rw[List.length_cons]
  omega
structure BfsI (E:Nat→Nat→Bool) (grp:List Nat) (n i:Nat) (acc:List Nat):Prop where
 nd:acc.Nodup
 le:i≤acc.length
 mem:n∈acc
 rch:∀y∈acc,Rch (fun j k=>E j k=true) (· ∈grp) n y
 clo:∀j (h:j<acc.length),j<i→∀y∈grp,E acc[j] y=true→y∈acc
theorem BfsI.len {E:Nat→Nat→Bool} {grp:List Nat} {n i:Nat} {acc:List Nat} (h:BfsI E grp n i acc):acc.length≤grp.length+1:=by
 have:=Vi acc (n::grp) h.nd (fun x hx=>by
  have:=h.rch x hx
  cases this with
  |base=>simp
  |step _ _ g=>simp[g])
 simpa using this
theorem BfsI.start (E:Nat→Nat→Bool) (grp:List Nat) (n:Nat):BfsI E grp n 0 [n]:=
 ⟨by simp,by simp,by simp,fun y hy=>by simp at hy;subst hy;exact .base,fun j _ h=>by omega⟩
theorem BfsI.next {E:Nat→Nat→Bool} {grp:List Nat} {n i:Nat} {acc:List Nat} (h:BfsI E grp n i acc) (hi:i<acc.length):BfsI E grp n (i+1) (Tw E grp acc[i] acc):=by
 obtain⟨h1,⟨t,ht⟩,h3⟩:=TP E acc[i] grp acc h.nd
 refine⟨h1,by rw[ht,qaE];omega,(h3 n).2 (.inl h.mem),fun y hy=> ?_,fun j hj hji y hy he=> ?_⟩
 ·rcases(h3 y).1 hy with hy|⟨hy,he⟩
  ·exact h.rch y hy
  ·exact .step (h.rch _ (qaB hi)) he hy
 ·have e:(Tw E grp acc[i] acc)[j]'hj=acc[j]'(by omega):=by
   simp only[ht]
   rw[List.getElem_append_left (by omega)]
  rw[e]at he
  rw[h3]
  by_cases hij:j=i
  ·subst hij;exact .inr ⟨hy,he⟩
  ·exact .inl (h.clo j (by omega) (by omega) y hy he)
theorem BfsI.done {E:Nat→Nat→Bool} {grp:List Nat} {n:Nat} {acc:List Nat} (h:BfsI E grp n acc.length acc) (y:Nat):y∈acc↔Rch (fun j k=>E j k=true) (· ∈grp) n y:=by
 refine⟨h.rch y,fun hr=> ?_⟩
 induction hr with
 |base=>exact h.mem
 |step _ e g ih=>
  obtain⟨j,hj,rfl⟩:=qaJ ih
  exact h.clo j hj hj _ g e
def UQ (l:List (List (List Q4))) (w:Q3) (i:Nat):List Nat:=(List.range l.length).filter fun k=>decide (k≠i)&&SG (l.getD i []) (l.getD k []) w
theorem VL (ps:List (List Bod)) (v:Q3) (j k:Nat):Vf (eM ps v) j k↔j<ps.length∧k<ps.length∧j≠k∧Cb ps v j k=true:=by
 unfold Vf eM
 by_cases hj:j<ps.length
 ·rw[show((List.range ps.length).map fun i=>ks ps v i ps.length).getD j 0=ks ps v j ps.length by simp[List.getD,hj]]
  rw[Wg]
  simp[hj]
 ·rw[show((List.range ps.length).map fun i=>ks ps v i ps.length).getD j 0=0 by simp[List.getD,hj]]
  simp[hj]
theorem Wi {l:List (List (List Q4))} (h:eB l=0) {w:Q3} (hw:w≠(0,0,0)) {j:Nat} (hj:j<l.length) (k:Nat):(UQ l w j).contains k=true↔Vf (eM (l.map (·.map bp)) w) j k:=by
 have hp:cx l=0:=by
  unfold eB at h
  split at h
  ·cases h
  ·split at h
   ·assumption
   ·exact h
 rw[VL,List.length_map]
 unfold UQ Cb
 rw[DT,DT,Tj (PV hp j) (PV hp k) hw]
 simp only[List.contains_iff_mem,alsm,List.mem_range,qaF,decide_eq_true_eq]
 constructor
 ·rintro⟨h1,h2,h3⟩;exact⟨hj,h1,fun e=>h2 e.symm,h3⟩
 ·rintro⟨_,h1,h2,h3⟩;exact⟨h1,fun e=>h2 e.symm,h3⟩
theorem Vj (E:Nat→Nat→Bool) (grp:List Nat) (n:Nat):∀f i acc,BfsI E grp n i acc→grp.length+1-i≤f→BfsI E grp n (Um E grp f i acc).length (Um E grp f i acc)
 |0,i,acc,h,hf=>by
  have h1:=h.len
  have h2:=h.le
  have:i=acc.length:=by omega
  subst this
  exact h
 |f+1,i,acc,h,hf=>by
  unfold Um
  by_cases hi:i<acc.length
  ·rw[dif_pos hi]
   exact Vj E grp n f (i+1) _ (h.next hi) (by omega)
  ·rw[dif_neg hi]
   have h2:=h.le
   have:i=acc.length:=by omega
   subst this
   exact h
def TU (E:Nat→Nat→Bool) (grp:List Nat) (n:Nat):List Nat:=grp.filter fun y=>(Um E grp (grp.length+1) 0 [n]).contains y
def rE (l:List (List (List Q4))) (w:Q3) (j k:Nat):Bool:=(UQ l w j).contains k
theorem Wz {l:List (List (List Q4))} (h:eB l=0) {w:Q3} (hw:w≠(0,0,0)) (j k:Nat):rE l w j k=true↔Vf (eM (l.map (·.map bp)) w) j k:=by
 unfold rE
 by_cases hj:j<l.length
 ·exact Wi h hw hj k
 ·have h1:¬Vf (eM (l.map (·.map bp)) w) j k:=fun hb=>hj (by have:=((VL _ _ _ _).1 hb).1;simpa using this)
  refine⟨fun h2=> ?_,fun h2=>absurd h2 h1⟩
  unfold UQ at h2
  rw[show l.getD j []=[] by simp[List.getD,hj]]at h2
  simp[SG]at h2
theorem VT {a b:Nat} (ha:a<4096) (hb:b<4096) (h:av a=av b):a=b:=by
 apply Nat.eq_of_testBit_eq
 intro i
 rw[Bool.eq_iff_iff, ←Tz ha, ←Tz hb,h]
theorem VN {p:Nat→Bool}:∀l:List Nat,(l.filter p).length<l.length↔l.filter p≠l
 | []=>by simp
 |a::l=>by
  rw[List.filter_cons]
  have h1:=List.length_filter_le p l
  have h2:=VN (p:=p) l
  split
  ·rw[List.length_cons,List.length_cons]
   simp only[ne_eq,List.cons.injEq,true_and]
   rw[←ne_eq, ←h2]
   omega
  ·rw[List.length_cons]
   refine⟨fun _ e=> ?_,fun _=>by omega⟩
   have:=congrArg List.length e
   rw[List.length_cons]at this
   omega
theorem Zi (n:Nat) (p:Nat→Bool):∀m,n≤m→(List.range m).filter (fun k=>decide (k<n)&&p k)=(List.range n).filter p
 |0,h=>by
  obtain rfl:n=0:=by omega
  rfl
 |m+1,h=>by
  by_cases hn:n=m+1
  ·subst hn
   refine List.filter_congr fun k hk=> ?_
   rw[List.mem_range]at hk
   simp[hk]
  ·rw[List.range_succ,List.filter_append,Zi n p m (by omega)]
   have:¬m<n:=by omega
   simp[this]
theorem qak {l:List (List (List Q4))} (h:eB l=0) {w:Q3} (hw:w≠(0,0,0)) {j:Nat} (hj:j<l.length):av ((eM (l.map (·.map bp)) w).getD j 0)=UQ l w j:=by
 have hl:l.length≤12:=(sq h).1
 have hp:cx l=0:=by
  unfold eB at h
  split at h
  ·cases h
  ·split at h
   ·assumption
   ·exact h
 have e:(eM (l.map (·.map bp)) w).getD j 0=ks (l.map (·.map bp)) w j l.length:=by
  unfold eM
  rw[List.length_map]
  simp[List.getD,hj]
 rw[e,TS _ (Ei _ _ _ _ hl)]
 unfold UQ
 rw[←Zi l.length _ 12 hl]
 refine List.filter_congr fun k _=> ?_
 rw[Wg]
 unfold Cb
 rw[DT,DT,Tj (PV hp j) (PV hp k) hw]
 by_cases hjk:j=k
 ·subst hjk;simp
 ·have h2:¬k=j:=fun e=>hjk e.symm
  simp[hjk,h2]
theorem Yj {s:Nat} (h:s<4096):av s=[]↔s=0:=by
 refine⟨fun e=>VT h (by decide) (e.trans elems_zero.symm),fun e=>by rw[e];rfl⟩
def WP (E:Nat→Nat→Bool) (grp out:List Nat):Bool:=out.all fun j=>(grp.filter fun y=> !out.contains y).all fun y=> !E j y
theorem Wj:∀(l m:List Nat),l.Pairwise (· < ·)→m.Pairwise (· < ·)→(∀x,x∈l↔x∈m)→l=m
 | [],[],_,_,_=>rfl
 | [],b::m,_,_,h=>by have:=(h b).2 (by simp);cases this
 |a::l,[],_,_,h=>by have:=(h a).1 (by simp);cases this
 |a::l,b::m,hl,hm,h=>by
  rw[List.pairwise_cons]at hl hm
  have hab:a=b:=by
   have h1:=(h a).1 (by simp)
   have h2:=(h b).2 (by simp)
   rcases alsk.1 h1 with e|h1
   ·exact e
   ·rcases alsk.1 h2 with e|h2
    ·exact e.symm
    ·have:=hm.1 a h1
     have:=hl.1 b h2
     omega
  subst hab
  congr 1
  refine Wj l m hl.2 hm.2 (fun x=>⟨fun hx=> ?_,fun hx=> ?_⟩)
  ·have h1:=(h x).1 (by simp[hx])
   rcases alsk.1 h1 with e|h1
   ·have:=hl.1 x hx;omega
   ·exact h1
  ·have h1:=(h x).2 (by simp[hx])
   rcases alsk.1 h1 with e|h1
   ·have:=hm.1 x hx;omega
   ·exact h1
theorem Wk (n:Nat):(List.range n).Pairwise (· < ·):=List.pairwise_lt_range
theorem UR {s:Nat} (h:s<4096):(av s).Pairwise (· < ·):=by rw[TS s h];exact(Wk 12).filter _
theorem WQ {n:Nat} (h:n≤12):2 ^ n-1<4096:=by
 have:2 ^ n≤2 ^ 12:=Nat.pow_le_pow_right (show 0<2 by omega) h
 have h2:=Nat.two_pow_pos n
 omega
theorem WT {n:Nat} (h:n≤12):av (2 ^ n-1)=List.range n:=by
 refine Wj _ _ (UR (WQ h)) (Wk n) (fun k=> ?_)
 rw[Tz (WQ h),List.mem_range,Nat.testBit_two_pow_sub_one]
 simp
end
section
open Go.RowKit Go.Shelf Go.Lib
attribute [local go_sem] Ext.cell Ext.frozen
theorem WB {xs:List Int} {x:Int} {k:Nat} (h:k<xs.length) (e:xs[k]=x):xs.contains x=true:=by
 rw[List.contains_iff_mem, ←e];exact qaB h
theorem WC {xs:List Int} {x:Int} (h:∀k (h:k<xs.length),xs[k]≠x):xs.contains x=false:=by
 rw[Bool.eq_false_iff]
 intro hc
 obtain⟨k,hk,e⟩:=qaJ (List.contains_iff_mem.1 hc)
 exact h k hk e
theorem VO (v:Value) (xs:List Int) (x:Int) (W:World) (hm:xs.length≤1000000) (hx:Ints W v xs):
  Calls Tryz.prog 68 #[v, .int .i64 x] W (fun e w'=>e= .returned (.bool (xs.contains x))∧w'=W):=by
 have HT:=fun k (h:k<xs.length)=>YJ (@WB xs x k h)
 have HF:=YJ (@WC xs x)
 obtain⟨a,n,c,rfl,hn,_,hi⟩:=hx
 have HX:=YJ hi
 have HN:=YJ hn
 clear hi hn
 generalize xs.contains x=res at*
 go_enter Tryz.func68,Tryz.ntmps68
 go_wp2
 go_loopw [5] (fun i wr=>wr=W∧∃k:Nat,k≤n∧i= .int .i64 k∧Hid (∀j (h:j<xs.length),j<k→xs[j]≠x)) (fun i _=>n-(intOf i).toNat)
 case atStart=>exact⟨rfl,0,by omega,rfl,YJ (fun j _ h=>by omega)⟩
 case round=>
  obtain⟨rfl,k,hk,rfl,Hd⟩:=hrel
  by_cases hlt:k<n
  ·have g1:(k:Int)<(n:Int):=by omega
   have g2:(0:Int)≤(k:Int):=by omega
   have hil:k<xs.length:=by have:=HN.out;omega
   obtain⟨b,off,rfl,hi4⟩:=HX.out (by omega)
   have e0:=hi4 k hil
   have ze:=qaC wr _ e0
   simp only at ze
   have HK:=YJ (HT k hil).out
   have Hst:Hid (xs[k]≠x→∀j (h:j<xs.length),j<k+1→xs[j]≠x):=YJ (fun h j hj hji=>by
    by_cases e:j=k
    ·subst e;exact h
    ·exact Hd.out j hj (by omega))
   clear HX HT HF hi4 Hd
   generalize xs[k]=y at*
   by_cases hy:y=x
   ·have hr:=HK.out hy
    subst hr hy
    go_wp2
    go_ret
    exact⟨by first|rfl|trivial,rfl⟩
   ·have hyb:(y==x)=false:=by simpa using hy
    go_wp2
    go_roundw
    case rel=>exact⟨by first|rfl|trivial,k+1,by omega,by go_num,YJ (Hst.out hy)⟩
    case measure=>first|(simp[intOf];done)|(simp[intOf];omega)
  ·obtain rfl:k=n:=by omega
   have hr:=HF.out (fun j h=>Hd.out j h (by have:=HN.out;omega))
   subst hr
   clear HX HT HF Hd
   go_wp2
   go_ret
   exact⟨by first|rfl|trivial,rfl⟩
theorem Ws {xs ys:List Int} {k:Nat} (h:k<xs.length) (h2:k<ys.length) (e:xs[k]≠ys[k]):decide (xs=ys)=false:=by
 rw[decide_eq_false_iff_not];rintro rfl;exact e rfl
theorem Vr {xs ys:List Int} (h:xs.length≠ys.length):decide (xs=ys)=false:=by
 rw[decide_eq_false_iff_not];rintro rfl;exact h rfl
theorem Wt {xs ys:List Int} (hl:xs.length=ys.length) (h:∀k (h:k<xs.length) (h2:k<ys.length),xs[k]=ys[k]):decide (xs=ys)=true:=by
 rw[decide_eq_true_eq];exact List.ext_getElem hl h
theorem VU (v v2:Value) (xs ys:List Int) (W:World) (hm:xs.length≤1000000) (hx:Ints W v xs) (hy:Ints W v2 ys):Calls Tryz.prog 61 #[v,v2] W (Ret W (.bool (decide (xs=ys)))):=by
 have HT:=YJ (@Wt xs ys)
 have HF:=fun k (h:k<xs.length) (h2:k<ys.length)=>YJ (@Ws xs ys k h h2)
 have HL:=YJ (@Vr xs ys)
 obtain⟨a,n,c,rfl,hn,_,hx⟩:=hx
 obtain⟨a2,n2,c2,rfl,hn2,_,hy⟩:=hy
 have HX:=YJ hx
 have HY:=YJ hy
 have HN:=YJ hn
 have HN2:=YJ hn2
 have hm1:n≤1000000:=by omega
 clear hx hy hn hn2 hm
 generalize decide (xs=ys)=res at*
 by_cases hnn:n=n2
 ·subst hnn
  go_enter Tryz.func61,Tryz.ntmps61
  clear HL
  go_wp2
  go_loopw [5] (fun i wr=>∃k:Nat,k≤n∧i= .int .i64 k∧Below W.heap.size W wr∧Hid (∀j (h:j<xs.length) (h2:j<ys.length),j<k→xs[j]=ys[j])) (fun i _=>n-(intOf i).toNat)
  case atStart=>exact⟨0,by omega,rfl,brf,YJ (fun j _ _ h=>by omega)⟩
  case round=>
   obtain⟨k,hk,rfl,hb,Hd⟩:=hrel
   by_cases hlt:k<n
   ·have h1:k<xs.length:=by have:=HN.out;omega
    have h2:k<ys.length:=by have:=HN2.out;omega
    obtain⟨b,off,rfl,hi⟩:=HX.out (by omega)
    obtain⟨b2,off2,rfl,hi2⟩:=HY.out (by omega)
    have c0:=ab hb (hi k h1)
    have c1:=ab hb (hi2 k h2)
    have z0:=qaC wr _ c0
    have z1:=qaC wr _ c1
    simp only at z0 z1
    have HK:=YJ (HF k h1 h2).out
    have Hst:Hid (xs[k]=ys[k]→∀j (h:j<xs.length) (h2:j<ys.length),j<k+1→xs[j]=ys[j]):=YJ (fun h j hj hj2 hji=>by
     by_cases e:j=k
     ·subst e;exact h
     ·exact Hd.out j hj hj2 (by omega))
    clear HX HY HT HF hi hi2 Hd
    generalize xs[k]=x at*
    generalize ys[k]=y at*
    have q1:(k:Int)<(n:Int):=by omega
    have q2:(0:Int)≤(k:Int):=by omega
    go_wp2
    refine wqf fun u=> ?_
    by_cases hxy:x=y
    ·have hb2:(x !=y)=false:=by simpa using hxy
     go_wp2
     go_roundw
     case rel=>exact⟨k+1,by omega,by go_num,fB hb u.below,YJ (Hst.out hxy)⟩
     case measure=>first|(simp[intOf];done)|(simp[intOf];omega)
    ·have hb2:(x !=y)=true:=by simpa using hxy
     obtain rfl:=HK.out hxy
     go_wp2
     go_ret
     exact⟨by first|rfl|trivial,fB hb u.below⟩
   ·obtain rfl:k=n:=by omega
    obtain rfl:=HT.out (by rw[HN.out,HN2.out]) (fun j h h2=>Hd.out j h h2 (by have:=HN.out;omega))
    clear HX HY HT HF Hd
    go_wp2
    go_ret
    exact⟨by first|rfl|trivial,hb⟩
 ·have hne:((n:Int)!=(n2:Int))=true:=by simp;omega
  obtain rfl:=HL.out (by rw[HN.out,HN2.out];exact hnn)
  go_enter Tryz.func61,Tryz.ntmps61
  clear HX HY HT HF HL
  go_wp2
  go_ret
  exact⟨by first|rfl|trivial,brf⟩
def Wu (xs:List Int) (W:World) (e:Ending) (w':World):Prop:=∃v,e= .returned v∧Below W.heap.size W w'∧w'.ownsRow W.heap.size 3 1 v xs.length (xs.map (Value.int .i64))
def nI (l:List Nat):List Int:=l.map fun n:Nat=>(n:Int)
theorem TO (l:List Nat):(nI l).length=l.length:=List.length_map _
theorem Wm (l:List Nat) (n:Nat):(nI l).contains (n:Int)=l.contains n:=by
 rw[Bool.eq_iff_iff,List.contains_iff_mem,List.contains_iff_mem]
 unfold nI
 rw[List.mem_map]
 exact⟨fun⟨m,h,e⟩=>by rw[←Int.ofNat_inj.1 e];exact h,fun h=>⟨n,h,rfl⟩⟩
theorem VV (l m:List Nat):(nI l).filter (fun y=> !(nI m).contains y)=nI (l.filter fun y=> !m.contains y):=by
 induction l with
 |nil=>rfl
 |cons a l ih=>
  show List.filter _ ((a:Int)::nI l)=_
  rw[List.filter_cons,List.filter_cons,Wm,ih]
  split<;>rfl
theorem Vm (l:List Nat):(nI l).map (Value.int .i64)=l.map iV:=by unfold nI;rw[List.map_map];rfl
theorem Vb {w:World} {B:Nat} {v:Value} {l:List Nat} (h:w.ownsRow B 3 1 v l.length (l.map iV)):Ints w v (nI l):=jy (T:=3) (base:=B) (by rw[TO,Vm];exact h)
theorem XN (k:Nat):nI (List.range (k+1))=nI (List.range k)++[(k:Int)]:=by unfold nI;rw[List.range_succ,List.map_append];rfl
set_option maxRecDepth 100000 in
theorem Yo (n:Nat) (W:World) (hn:n≤1000000):Calls Tryz.prog 26 #[.int .i64 n] W (Wu (nI (List.range n)) W):=by
 obtain⟨i0,hi0,hz0,hz1,hz2⟩:=info_parts In
 have Hi0:=YJ (And.intro hi0 (And.intro hz0 (And.intro hz1 hz2)))
 clear hi0 hz0 hz1 hz2
 go_enter Tryz.func26,Tryz.ntmps26
 go_wp2
 go_loopw [3,4] (fun s x wr=>∃(k:Nat),k≤n∧x= .int .i64 k∧Below W.heap.size W wr∧Hid (wr.ownsRow W.heap.size 3 1 s (nI (List.range k)).length ((nI (List.range k)).map (Value.int .i64)))) (fun _ x _=>n-(intOf x).toNat)
 case atStart=>exact⟨0,by omega,rfl,brf,YJ (by exact World.ownsRow_nil _ _ _ _)⟩
 case round=>
  obtain⟨k,hk,rfl,hb,HO⟩:=hrel
  obtain⟨oa,oc,rfl⟩:=aT HO.out
  by_cases hlt:k<n
  ·have g1:(k:Int)<(n:Int):=by omega
   have Hs:=YJ (XN k)
   have hPl:(nI (List.range k)).length≤1000000:=by rw[TO,List.length_range];omega
   generalize nI (List.range k)=P at*
   go_wp2_with (at_builtin;refine wpList_append_own _ rfl _ _ 49 rfl W.heap.size 3 i0 (.int .i64 0) 1 8 Io Hi0.out.1 Hi0.out.2.1 Hi0.out.2.2.1 Hi0.out.2.2.2 rfl (by decide) _ P.length _ rfl ((HO).out.alloc _) ⟨_,0,none⟩ 1 1 [.int .i64 (k:Int)] rfl rfl ?c1 ?c2 ?c3 ?c4 ?c5 ?_)
   case c1=>
    intro jj uu hu
    rw[jY,aq (by simp) jj]
    simpa using hu
   case c2=>intro v hv;simp at hv;subst hv;rfl
   case c3=>unfold maxLen;omega
   case c4=>omega
   case c5=>simp;have:=(hb).size;omega
   intro v' w4 hown4 hg4 hu4
   have hb4:Below W.heap.size W w4:=((hb).alloc (hb).size _).grown hg4 (by simp;have:=(hb).size;omega) (fun z hz=>by have:=((HO).out.lt z hz).1;omega)
   have HO4:Hid (w4.ownsRow W.heap.size 3 1 v' (nI (List.range (k+1))).length ((nI (List.range (k+1))).map (Value.int .i64))):=YJ (by rw[show nI (List.range (k+1))=P++[(k:Int)]from Hs.out,qaE,List.map_append];exact hown4)
   clear hown4 hg4 hu4
   obtain⟨va,vc,rfl⟩:=aT HO4.out
   clear HO
   go_wp2
   go_roundw
   case rel=>exact⟨k+1,by omega,by go_num,hb4,HO4⟩
   case measure=>first|(simp[intOf];done)|(simp[intOf];omega)
  ·obtain rfl:k=n:=by omega
   go_wp2
   go_ret
   exact⟨_,rfl,hb,HO.out⟩
def Ug (xs ys:List Int):List Int:=xs.filter fun y=> !ys.contains y
theorem VW {xs ys:List Int} {k:Nat} (h:k<xs.length):Ug (xs.take (k+1)) ys=if ys.contains xs[k]=true then Ug (xs.take k) ys else Ug (xs.take k) ys++[xs[k]]:=by
 unfold Ug
 rw[qaI h,List.filter_append]
 split
 ·rename_i hc;rw[List.filter_cons,hc];simp
 ·rename_i hc;rw[List.filter_cons,Bool.eq_false_iff.2 hc];simp
set_option maxRecDepth 100000 in
theorem Vs (v v2:Value) (xs ys:List Int) (W:World) (hm:xs.length≤1000000) (hm2:ys.length≤1000000) (hx:Ints W v xs) (hy:Ints W v2 ys):Calls Tryz.prog 64 #[v,v2] W (Wu (Ug xs ys) W):=by
 obtain⟨i0,hi0,hz0,hz1,hz2⟩:=info_parts In
 have Hi0:=YJ (And.intro hi0 (And.intro hz0 (And.intro hz1 hz2)))
 clear hi0 hz0 hz1 hz2
 have HHas:=fun x W' (hb:Below W.heap.size W W')=>YJ (VO v2 ys x W' hm2 (hy.below hb))
 have HS:=fun k (h:k<xs.length)=>YJ (@VW xs ys k h)
 have HLn:=fun k=>YJ (show(Ug (xs.take k) ys).length≤1000000 from qaD (List.length_filter_le _ _) (by rw[List.length_take];omega))
 obtain⟨a,n,c,rfl,hn,_,hi⟩:=hx
 have HX:=YJ hi
 have HN:=YJ hn
 have HE:Hid (Ug (xs.take n) ys=Ug xs ys):=YJ (by rw[←hn,List.take_length])
 have hm1:n≤1000000:=by omega
 obtain⟨ya,yn,yc,rfl, -⟩:=hy
 clear hi hn hm hm2
 go_enter Tryz.func64,Tryz.ntmps64
 go_wp2
 go_loopw [5,6] (fun s x wr=>∃(k:Nat),k≤n∧x= .int .i64 k∧Below W.heap.size W wr∧Hid (wr.ownsRow W.heap.size 3 1 s (Ug (xs.take k) ys).length ((Ug (xs.take k) ys).map (Value.int .i64)))) (fun _ x _=>n-(intOf x).toNat)
 case atStart=>exact⟨0,by omega,rfl,brf,YJ (World.ownsRow_nil _ _ _ _)⟩
 case round=>
  obtain⟨k,hk,rfl,hb,HO⟩:=hrel
  obtain⟨oa,oc,rfl⟩:=aT HO.out
  by_cases hlt:k<n
  ·have g1:(k:Int)<(n:Int):=by omega
   have g2:(0:Int)≤(k:Int):=by omega
   have hil:k<xs.length:=by have:=HN.out;omega
   obtain⟨b,off,rfl,hi4⟩:=HX.out (by omega)
   have e0:=ab hb (hi4 k hil)
   have ze:=qaC wr _ e0
   simp only at ze
   have Hs:=YJ (HS k hil).out
   have hPl:=(HLn k).out
   have HC:=YJ (HHas xs[k] wr hb).out
   clear HX HS HLn hi4 HHas
   generalize xs[k]=y at*
   generalize Ug (xs.take k) ys=P at*
   generalize ys.contains y=cb at*
   go_wp2_with fail
   refine(HC.out).mono ?_
   rintro e w1 ⟨rfl,rfl⟩
   clear HC
   cases cb with
   |true=>
    have Hs':=Hs.out
    rw[if_pos rfl]at Hs'
    rw[←Hs']at HO
    go_wp2
    go_roundw
    case rel=>exact⟨k+1,by omega,by go_num,hb,by first|exact HO|(rw[Hs']at HO ⊢;exact HO)⟩
    case measure=>first|(simp[intOf];done)|(simp[intOf];omega)
   |false=>
    have Hs':Ug (xs.take (k+1)) ys=P++[y]:=by rw[Hs.out,if_neg (by simp)]
    clear Hs
    go_wp2_with (at_builtin;refine wpList_append_own _ rfl _ _ 49 rfl W.heap.size 3 i0 (.int .i64 0) 1 8 Io Hi0.out.1 Hi0.out.2.1 Hi0.out.2.2.1 Hi0.out.2.2.2 rfl (by decide) _ P.length _ rfl ((HO).out.alloc _) ⟨_,0,none⟩ 1 1 [.int .i64 y] rfl rfl ?c1 ?c2 ?c3 ?c4 ?c5 ?_)
    case c1=>
     intro jj uu hu
     rw[jY,aq (by simp) jj]
     simpa using hu
    case c2=>intro v hv;simp at hv;subst hv;rfl
    case c3=>unfold maxLen;omega
    case c4=>omega
    case c5=>simp;have:=(hb).size;omega
    intro v' w4 hown4 hg4 hu4
    have hb4:Below W.heap.size W w4:=((hb).alloc (hb).size _).grown hg4 (by simp;have:=(hb).size;omega) (fun z hz=>by have:=((HO).out.lt z hz).1;omega)
    have HO4:Hid (w4.ownsRow W.heap.size 3 1 v' (Ug (xs.take (k+1)) ys).length ((Ug (xs.take (k+1)) ys).map (Value.int .i64))):=YJ (by rw[show Ug (xs.take (k+1)) ys=P++[y]from Hs',qaE,List.map_append];exact hown4)
    clear hown4 hg4 hu4
    obtain⟨va,vc,rfl⟩:=aT HO4.out
    clear HO e0 ze
    go_wp2
    go_roundw
    case rel=>exact⟨k+1,by omega,by go_num,hb4,HO4⟩
    case measure=>first|(simp[intOf];done)|(simp[intOf];omega)
  ·obtain rfl:k=n:=by omega
   clear HX HS HLn HHas
   go_wp2
   go_ret
   refine⟨_,rfl,hb, ?_⟩
   have:=HO.out
   rw[HE.out]at this
   first|exact this|(rw[HE.out];exact this)
end
section
open Go.RowKit Go.Shelf Go.Lib
set_option maxRecDepth 100000
attribute [local go_sem] Ext.cell Ext.frozen
def RowsP {α:Type} (P:Value→α→Prop) (vs:List Value) (l:List α):Prop:=vs.length=l.length∧∀i (h1:i<vs.length) (h2:i<l.length),P vs[i] l[i]
theorem RowsP.nil {α:Type} {P:Value→α→Prop}:RowsP P [] []:=⟨rfl,fun i h=>by simp at h⟩
theorem RowsP.snoc {α:Type} {P:Value→α→Prop} {vs:List Value} {l:List α} {v:Value} {s:α} (h:RowsP P vs l) (hv:P v s):RowsP P (vs++[v]) (l++[s]):=by
 refine⟨by simp[h.1],fun i h1 h2=> ?_⟩
 by_cases hi:i<vs.length
 ·have hc:i<l.length:=by rw[←h.1];exact hi
  rw[List.getElem_append_left hi,List.getElem_append_left hc]
  exact h.2 i hi hc
 ·have he:i=vs.length:=by simp at h1;omega
  subst he
  have:=h.1
  simp only[List.getElem_append_right (qaA _),Nat.sub_self,List.getElem_cons_zero]
  rw[List.getElem_append_right (by omega)]
  simp only[this,Nat.sub_self,List.getElem_cons_zero]
  exact hv
theorem RowsP.imp {α:Type} {P Q:Value→α→Prop} {vs:List Value} {l:List α} (hi:∀v a,P v a→Q v a) (h:RowsP P vs l):RowsP Q vs l:=⟨h.1,fun i h1 h2=>hi _ _ (h.2 i h1 h2)⟩
theorem Vt {α:Type} {E:World→Value→α→Prop} {w:World} {B n:Nat} {T:TypeId} {v:Value} {vs:List Value} {l:List α} (h:w.ownsRow B T 1 v n vs) (hn:n=l.length) (hr:RowsP (E w) vs l):Each w v E l:=by
 subst hn
 have hlen:=h.1
 have hX:=h.2
 rcases hX with⟨rfl,h0⟩|⟨g,cap,cur,rfl,hb,hh,hnc,hcm,hcs,htk⟩
 ·exact⟨none,0,0,rfl,h0,qaA _,fun h=>absurd h (by omega)⟩
 ·refine⟨_,_,_,rfl,rfl,hnc,fun _=>⟨g,0,rfl,fun i hi=> ?_⟩⟩
  have hi2:i<vs.length:=by omega
  refine⟨vs[i], ?_,hr.2 i hi2 hi⟩
  have h3:=(World.ownsRow.cells h rfl) i vs[i] (by simp[hi2])
  simpa [jY]using h3
def OwnI (B:Nat) (w:World) (v:Value) (l:List Nat):Prop:=w.ownsRow B 3 1 v l.length (l.map iV)
theorem OwnI.below {B:Nat} {w w':World} {v:Value} {l:List Nat} (h:OwnI B w v l) (hb:Below w.heap.size w w'):OwnI B w' v l:=au h hb
theorem OwnI.mono {B B':Nat} {w:World} {v:Value} {l:List Nat} (h:OwnI B w v l) (hb:B'≤B):OwnI B' w v l:=AY h hb
theorem OwnI.ints {B:Nat} {w:World} {v:Value} {l:List Nat} (h:OwnI B w v l):Ints w v (nI l):=Vb h
theorem OwnI.kept {B:Nat} {w w':World} {v:Value} {l:List Nat} {row:Option Nat} {T:TypeId} (hT:T≠3) (h:OwnI B w v l) (hg:w.grownBy w' row) (hne:∀g cs,row=some g→w.heap[g]? =some cs→∃c t,cs= .cells c t (0,0)∧t=T):OwnI B w' v l:=
 Qu h hg (fun g cs k1 k2=>by obtain⟨c,t,h3,h4⟩:=hne g cs k1 k2;exact⟨c,t,h3,by rw[h4];exact hT⟩)
def OwnG (B:Nat) (w:World) (v:Value) (g:List (List Nat)):Prop:=∃vs,w.ownsRow B 49 1 v g.length vs∧RowsP (OwnI B w) vs g
theorem OwnG.below {B:Nat} {w w':World} {v:Value} {g:List (List Nat)} (h:OwnG B w v g) (hb:Below w.heap.size w w'):OwnG B w' v g:=by
 obtain⟨vs,h1,h2⟩:=h
 exact⟨vs,au h1 hb,h2.imp fun _ _ h=>h.below hb⟩
theorem OwnG.mono {B B':Nat} {w:World} {v:Value} {g:List (List Nat)} (h:OwnG B w v g) (hb:B'≤B):OwnG B' w v g:=by
 obtain⟨vs,h1,h2⟩:=h
 exact⟨vs,AY h1 hb,h2.imp fun _ _ h=>h.mono hb⟩
theorem OwnG.kept {B:Nat} {w w':World} {v:Value} {g:List (List Nat)} {row:Option Nat} {T:TypeId} (hT:T≠3) (hT2:T≠49) (h:OwnG B w v g) (hg:w.grownBy w' row) (hne:∀g cs,row=some g→w.heap[g]? =some cs→∃c t,cs= .cells c t (0,0)∧t=T):OwnG B w' v g:=by
 obtain⟨vs,h1,h2⟩:=h
 exact⟨vs,Qu h1 hg (fun g cs k1 k2=>by obtain⟨c,t,h3,h4⟩:=hne g cs k1 k2;exact⟨c,t,h3,by rw[h4];exact hT2⟩),h2.imp fun _ _ h=>h.kept hT hg hne⟩
def NatV (w:World) (v:Value) (l:List Nat):Prop:=Ints w v (nI l)
def GrfV (w:World) (v:Value) (g:List (List Nat)):Prop:=Each w v NatV g
def GsV (w:World) (v:Value) (gs:List (List (List Nat))):Prop:=Each w v GrfV gs
theorem NatV.below {w w':World} {v:Value} {l:List Nat} (h:NatV w v l) (hb:Below w.heap.size w w'):NatV w' v l:=Ints.below h hb
theorem GrfV.below {w w':World} {v:Value} {g:List (List Nat)} (h:GrfV w v g) (hb:Below w.heap.size w w'):GrfV w' v g:=Each.below (fun _ _ _ _ hb h=>NatV.below h hb) h hb
theorem GsV.below {w w':World} {v:Value} {gs:List (List (List Nat))} (h:GsV w v gs) (hb:Below w.heap.size w w'):GsV w' v gs:=Each.below (fun _ _ _ _ hb h=>GrfV.below h hb) h hb
theorem OwnG.grf {B:Nat} {w:World} {v:Value} {g:List (List Nat)} (h:OwnG B w v g):GrfV w v g:=by
 obtain⟨vs,h1,h2⟩:=h
 exact Vt h1 rfl (h2.imp fun _ _ h=>h.ints)
def GrO (g:List (List Nat)) (W:World) (e:Ending) (w':World):Prop:=∃v,e= .returned v∧Below W.heap.size W w'∧OwnG W.heap.size w' v g
theorem VX:(Tryz.prog.info? 49).map (fun i=>(i.zero,i.size,i.bytes))=some (some (.slice none 0 0),1,24):=by kernel_rfl
theorem VY:Tryz.prog.underlying 37=some (.slice 49):=by kernel_rfl
def TF (l:List (List (List Q4))) (w:Q3):List (List Nat):=(List.range l.length).map (UQ l w)
theorem TV (l:List (List (List Q4))) (w:Q3):(TF l w).length=l.length:=by unfold TF;simp
theorem VC {l:List (List (List Q4))} {w:Q3} {k:Nat} (h:k<l.length):(TF l w).take (k+1)=(TF l w).take k++[UQ l w k]:=by
 rw[qaI (by rw[TV];exact h)]
 congr 2
 unfold TF
 simp
def TH (l:List (List (List Q4))) (w:Q3) (i k:Nat):List Nat:=(List.range k).filter fun k=>decide (k≠i)&&SG (l.getD i []) (l.getD k []) w
theorem VD {l:List (List (List Q4))} {w:Q3} {i k:Nat} (hi:i<l.length) (hk:k<l.length):TH l w i (k+1)=if(decide (k≠i)&&SG l[i] l[k] w)=true then TH l w i k++[k]else TH l w i k:=by
 unfold TH
 rw[List.range_succ,List.filter_append,List.filter_cons]
 have e1:l.getD i []=l[i]:=by simp[List.getD,hi]
 have e2:l.getD k []=l[k]:=by simp[List.getD,hk]
 rw[e1,e2]
 split<;>simp
theorem VZ (l:List (List (List Q4))) (w:Q3) (i k:Nat):(TH l w i k).length≤k:=qaD (List.length_filter_le _ _) (by simp)
theorem VE (l:List (List (List Q4))) (lv:Value) (x y z:Int) (W:World) (hl:l.length≤1000) (hL:∀s∈l,s.length≤100∧∀c∈s,SI c) (hw:Tk x y z) (hw0:((x,y,z):Q3)≠(0,0,0)) (h:SolsV W lv l):
  Calls Tryz.prog 20 #[lv,V3 x y z] W (GrO (TF l (x,y,z)) W):=by
 obtain⟨i0,hi0,hz0,hz1,hz2⟩:=info_parts In
 have Hi0:=YJ (And.intro hi0 (And.intro hz0 (And.intro hz1 hz2)))
 obtain⟨i1,hj0,hy0,hy1,hy2⟩:=info_parts VX
 have Hi1:=YJ (And.intro hj0 (And.intro hy0 (And.intro hy1 hy2)))
 clear hi0 hz0 hz1 hz2 hj0 hy0 hy1 hy2
 obtain⟨V,HV⟩:∃V,Hid (W.alloc (.cells #[.int .i64 x, .int .i64 y, .int .i64 z] 36)=V):=⟨_,YJ rfl⟩
 have hV:Below W.heap.size W V:=by rw[←HV.out];exact bel
 have zV:W.heap.size≤V.heap.size:=hV.size
 have HW:Hid (V.heap[W.heap.size]? =some (.cells #[.int .i64 x, .int .i64 y, .int .i64 z] 36 (0,0))):=YJ (by rw[←HV.out];exact ai rfl)
 have HB:=fun i k (hi:i<l.length) (hk:k<l.length) sv tv W' (k1:SolV W' sv l[i]) (k2:SolV W' tv l[k])=>YJ (SD (fun ps pv x y z W h1 h2 h3 h4=>Tf ps pv x y z W h1 h2 h3.1 h3.2.1 h3.2.2 h4) l[i] l[k] sv tv x y z W' (hL _ (qaB hi)).2 (hL _ (qaB hk)).2 (hL _ (qaB hi)).1 (hL _ (qaB hk)).1 hw hw0 k1 k2)
 have HS1:=fun k (h:k<l.length)=>YJ (@VC l (x,y,z) k h)
 have HS2:=fun i k (hi:i<l.length) (h:k<l.length)=>YJ (@VD l (x,y,z) i k hi h)
 have HLn:=fun i k=>YJ (VZ l (x,y,z) i k)
 obtain⟨la,n,lc,rfl,hn, -,hx⟩:=h
 have HX:=YJ hx
 have HN:=YJ hn
 have hn1:n≤1000:=by omega
 have HE:Hid ((TF l (x,y,z)).take n=TF l (x,y,z)):=YJ (by rw[←hn, ←TV l (x,y,z),List.take_length])
 have HEl:Hid ((TF l (x,y,z)).length=n):=YJ (by rw[TV,hn])
 have HRg:Hid (∀i,TH l (x,y,z) i n=UQ l (x,y,z) i):=YJ (fun i=>by unfold TH UQ;rw[hn])
 clear hx hn hl hL hw hw0
 go_enter Tryz.func20,Tryz.ntmps20
 go_wp2
 try rw[HV.out]
 go_loopw [5,6] (fun s ix wr=>∃k:Nat,k≤n∧ix= .int .i64 k∧Below V.heap.size V wr∧∃vs,Hid (wr.ownsRow V.heap.size 49 1 s k vs)∧Hid (RowsP (OwnI V.heap.size wr) vs ((TF l (x,y,z)).take k))) (fun _ ix _=>n-(intOf ix).toNat)
 case atStart=>exact⟨0,by omega,rfl,brf,[],YJ (World.ownsRow_nil _ _ _ _),YJ (by rw[List.take_zero];exact RowsP.nil)⟩
 case round=>
  obtain⟨i,hi,rfl,hb,vs,HO,HR⟩:=hrel
  obtain⟨oa,oc,rfl⟩:=aT HO.out
  by_cases hlt:i<n
  ·have g1:(i:Int)<(n:Int):=by omega
   have g2:(0:Int)≤(i:Int):=by omega
   have hil:i<l.length:=by have:=HN.out;omega
   have HSi:=YJ (HS1 i hil).out
   have HS2i:=fun k (h:k<l.length)=>YJ (HS2 i k hil h).out
   have HBi:=fun k (h:k<l.length) sv tv W' k1 k2=>YJ (HB i k hil h sv tv W' k1 k2).out
   have hbV:=fB hV hb
   obtain⟨b,off,rfl,hi4⟩:=HX.out (by omega)
   have HX4:=YJ hi4
   clear hi4 HX HS1 HS2 HB
   obtain⟨wo,rfl⟩:∃wo:World,wo=wr:=⟨_,rfl⟩
   go_wp2
   go_loopw [7,8] (fun r iy wr=>∃k:Nat,k≤n∧iy= .int .i64 k∧Below wo.heap.size wo wr∧Hid (wr.ownsRow wo.heap.size 3 1 r (TH l (x,y,z) i k).length ((TH l (x,y,z) i k).map iV))) (fun _ iy _=>n-(intOf iy).toNat)
   case atStart=>exact⟨0,by omega,rfl,brf,YJ (World.ownsRow_nil _ _ _ _)⟩
   case round=>
    obtain⟨k,hk,rfl,hbw,HP⟩:=hrel
    obtain⟨ra,rc,rfl⟩:=aT HP.out
    by_cases hkn:k<n
    ·have g3:(k:Int)<(n:Int):=by omega
     have g4:(0:Int)≤(k:Int):=by omega
     have hkl:k<l.length:=by have:=HN.out;omega
     have HS2k:=YJ (HS2i k hkl).out
     have hPl:(TH l (x,y,z) i k).length≤1000:=qaD (HLn i k).out (by omega)
     by_cases hki:k=i
     ·have HS2':TH l (x,y,z) i (k+1)=TH l (x,y,z) i k:=by rw[HS2k.out,if_neg (by simp[hki])]
      have gk:((k:Int)!=(i:Int))=false:=by simp[hki]
      clear HS2k HS2i HBi HX4 HLn
      generalize TH l (x,y,z) i k=P at*
      go_wp2
      refine wqf fun u=> ?_
      go_wp2
      go_roundw
      case rel=>exact⟨k+1,by omega,by go_num,fB hbw u.below,YJ (by rw[HS2'];exact au HP.out u.below)⟩
      case measure=>first|(simp[intOf];done)|(simp[intOf];omega)
     ·have gk:((k:Int)!=(i:Int))=true:=by simp;omega
      obtain⟨sv,e0,hs⟩:=HX4.out i hil
      obtain⟨tv,e1,ht⟩:=HX4.out k hkl
      have hbVw:=fB hbV hbw
      have e0:=ab hbVw e0
      have e1:=ab hbVw e1
      have ze:=qaC wr _ e0
      have ze1:=qaC wr _ e1
      simp only at ze ze1
      obtain⟨w0,w1,w2,wf,wz⟩:=NO ((hbw.block _ (qaG (ah HW.out) hb.size)).trans ((hb.block _ (ah HW.out)).trans HW.out))
      have HC:=fun W' (h':Below W.heap.size W W')=>YJ (HBi k hkl sv tv W' (hs.below h') (ht.below h')).out
      clear hs ht HX4 HBi HS2i HLn
      generalize SG l[i] l[k] (x,y,z)=cb at*
      generalize TH l (x,y,z) i k=P at*
      go_wp2
      refine wqb ?_
      repeat(first|go_big_quiet_step ((go_at_call 60;exact aE ((HC _ (fB hbVw (Ext.below _))).out)))|quiet_step ((go_at_call 60;exact aE ((HC _ (fB hbVw (Ext.below _))).out))))
      refine wqn fun u=> ?_
      clear HC e0 e1 ze ze1 w0 w1 w2 wf wz
      have hbu:=fB hbw u.below
      have HPu:=YJ (au HP.out u.below)
      generalize u.val=w5 at*
      clear u HP
      cases cb with
      |true=>
       have HS2':TH l (x,y,z) i (k+1)=P++[k]:=by rw[HS2k.out,if_pos (by simp[hki])]
       clear HS2k
       go_wp2_with (at_builtin;refine wpList_append_own _ rfl _ _ 49 rfl wo.heap.size 3 i0 (.int .i64 0) 1 8 Io Hi0.out.1 Hi0.out.2.1 Hi0.out.2.2.1 Hi0.out.2.2.2 rfl (by decide) _ P.length _ rfl ((HPu).out.alloc _) ⟨_,0,none⟩ 1 1 [.int .i64 k] rfl rfl ?c1 ?c2 ?c3 ?c4 ?c5 ?_)
       case c1=>
        intro jj uu hu
        rw[jY,aq (by simp) jj]
        simpa using hu
       case c2=>intro v hv;simp at hv;subst hv;rfl
       case c3=>unfold maxLen;omega
       case c4=>omega
       case c5=>simp;have:=(hbu).size;omega
       intro v' w4 hown4 hg4 hu4
       have hb4:Below wo.heap.size wo w4:=((hbu).alloc (hbu).size _).grown hg4 (by simp;have:=(hbu).size;omega) (fun z hz=>by have:=((HPu).out.lt z hz).1;omega)
       have HO4:Hid (w4.ownsRow wo.heap.size 3 1 v' (TH l (x,y,z) i (k+1)).length ((TH l (x,y,z) i (k+1)).map iV)):=YJ (by rw[show TH l (x,y,z) i (k+1)=P++[k]from HS2',qaE,List.map_append];exact hown4)
       clear hown4 hg4 hu4
       obtain⟨va,vc,rfl⟩:=aT HO4.out
       clear HPu
       go_wp2
       go_roundw
       case rel=>exact⟨k+1,by omega,by go_num,hb4,HO4⟩
       case measure=>first|(simp[intOf];done)|(simp[intOf];omega)
      |false=>
       have HS2':TH l (x,y,z) i (k+1)=P:=by rw[HS2k.out,if_neg (by simp)]
       go_wp2
       go_roundw
       case rel=>exact⟨k+1,by omega,by go_num,hbu,YJ (by rw[HS2'];exact HPu.out)⟩
       case measure=>first|(simp[intOf];done)|(simp[intOf];omega)
    ·obtain rfl:k=n:=by omega
     have HPn:Hid (OwnI wo.heap.size wr (.slice ra (TH l (x,y,z) i k).length rc) (UQ l (x,y,z) i)):=YJ (by rw[←HRg.out i];exact HP.out)
     have HO1:=YJ (au HO.out hbw)
     have HR1:=YJ (HR.out.imp fun _ _ h=>h.below hbw)
     have hb1:=fB hb hbw
     have zwr:=hb.size
     clear HS2i HBi HX4 HLn HP HO HR
     generalize(TH l (x,y,z) i k).length=rn at*
     generalize UQ l (x,y,z) i=rl at*
     have hbx:Below wr.heap.size wr (wr.alloc (.cells #[.slice ra rn rc] 49)):=bel
     have HOx:=YJ (au HO1.out hbx)
     have HNx:Hid ((wr.alloc (.cells #[.slice ra rn rc] 49)).heap[wr.heap.size]? =some (.cells #[.slice ra rn rc] 49 (0,0))):=YJ (ai rfl)
     have HRx:Hid (RowsP (OwnI V.heap.size (wr.alloc (.cells #[.slice ra rn rc] 49))) (vs++[.slice ra rn rc]) ((TF l (x,y,z)).take (i+1))):=YJ (by
      rw[HSi.out]
      exact RowsP.snoc (HR1.out.imp fun _ _ h=>h.below hbx) ((HPn.out.mono zwr).below hbx))
     have zw1:=hb1.size
     clear HO1 HR1 HPn
     go_wp2_with (at_builtin;refine fq _ rfl _ _ 37 rfl V.heap.size 49 i1 (.slice none 0 0) 1 24 VY Hi1.out.1 Hi1.out.2.1 Hi1.out.2.2.1 Hi1.out.2.2.2 rfl (by decide) _ i vs rfl HOx.out ⟨wr.heap.size,0,none⟩ 1 1 [.slice ra rn rc] rfl rfl ?c1 ?c2 ?c3 ?c4 ?c5 ?_)
     case c1=>
      intro j u hu
      rw[jY,ag HNx.out]
      simpa using hu
     case c2=>
      intro u hu
      simp at hu
      subst hu
      rfl
     case c3=>unfold maxLen;omega
     case c4=>omega
     case c5=>simp;omega
     intro v' w4 hown4 hg4 _
     have hb4:Below V.heap.size V w4:=(fB hb1 hbx).grown hg4 (by simp;omega) (fun z hz=>(HOx.out.lt z hz).1)
     have HR4:Hid (RowsP (OwnI V.heap.size w4) (vs++[.slice ra rn rc]) ((TF l (x,y,z)).take (i+1))):=YJ (HRx.out.imp fun _ _ h=>h.kept (T:=49) (by decide) hg4 (jC HOx.out))
     have HO4:=YJ hown4
     clear hown4 hg4 HOx HNx HRx hbx
     go_wp2
     go_roundw
     case rel=>exact⟨i+1,by omega,by go_num,hb4,_,HO4,HR4⟩
     case measure=>first|(simp[intOf];done)|(simp[intOf];omega)
  ·obtain rfl:i=n:=by omega
   have HRn:=HR
   rw[HE.out]at HRn
   clear HX HS1 HS2 HB HR
   go_wp2
   go_ret
   refine⟨_,rfl,fB hV hb,vs, ?_,HRn.out.imp fun _ _ h=>h.mono zV⟩
   rw[HEl.out]
   exact AY HO.out zV
def gE (g:List (List Nat)) (j k:Nat):Bool:=(g.getD j []).contains k
theorem WD {g:List (List Nat)} {j:Nat} (h:j<g.length) (k:Nat):gE g j k=g[j].contains k:=by unfold gE;simp[List.getD,h]
theorem Wv {w:World} {B g:Nat} {T:TypeId} {v:Value} (hB:B≤g) (h:w.heap[g]? =some (.cells #[v] T (0,0))):w.ownsRow B T 1 (.slice (some ⟨g,0,none⟩) 1 1) 1 [v]:=
 ⟨rfl, .inr ⟨g,1,#[v],rfl,hB,h,qaA _,by unfold maxLen;omega,rfl,rfl⟩⟩
theorem WA {l:List Nat} {i:Nat} (h:i<l.length):(nI l)[i]'(by rw[TO];exact h)=(l[i]:Int):=by unfold nI;simp
theorem NatV.at {w:World} {v:Value} {l:List Nat} (h:NatV w v l):∃a n c,v= .slice a n c∧l.length=n∧(0<n→∃b off,a=some ⟨b,off,none⟩∧∀i (h:i<l.length),w.cell? ⟨b,off+i,none⟩=some (.int .i64 (l[i]:Nat))):=by
 obtain⟨a,n,c,rfl,hn,_,hi⟩:=h
 rw[TO]at hn
 refine⟨a,n,c,rfl,hn,fun h0=> ?_⟩
 obtain⟨b,off,rfl,hx⟩:=hi h0
 exact⟨b,off,rfl,fun i h=>by have:=hx i (by rw[TO];exact h);rwa [WA h]at this⟩
theorem Vu (v:Value) (l:List Nat) (y:Nat) (W:World) (hl:l.length≤1000000) (h:NatV W v l):Calls Tryz.prog 68 #[v, .int .i64 y] W (fun e w'=>e= .returned (.bool (l.contains y))∧w'=W):=by
 have:=VO v (nI l) y W (by rw[TO];exact hl) h
 rw[Wm]at this
 exact this
theorem Wn (g:List (List Nat)) (j:Nat) (hj:j<g.length) (v:Value) (y:Nat) (W:World) (hl:g[j].length≤1000000) (h:NatV W v g[j]):Calls Tryz.prog 68 #[v, .int .i64 y] W (fun e w'=>e= .returned (.bool (gE g j y))∧w'=W):=by
 rw[WD hj]
 exact Vu v g[j] y W hl h
theorem Ys {E:Nat→Nat→Bool} {grp out:List Nat} {i m:Nat} (hi:i<out.length) (hm:m<(grp.filter fun y=> !out.contains y).length) (h:E out[i] (grp.filter fun y=> !out.contains y)[m]=true):WP E grp out=false:=by
 unfold WP
 rw[List.all_eq_false]
 refine⟨out[i],qaB hi, ?_⟩
 rw[Bool.not_eq_true,List.all_eq_false]
 exact⟨_,qaB hm,by rw[h];simp⟩
theorem Yp {E:Nat→Nat→Bool} {grp out:List Nat} (h:∀i m (hi:i<out.length) (hm:m<(grp.filter fun y=> !out.contains y).length),E out[i] (grp.filter fun y=> !out.contains y)[m]=false):WP E grp out=true:=by
 unfold WP
 rw[alsi]
 intro j hj
 obtain⟨i,hi,rfl⟩:=qaJ hj
 rw[alsi]
 intro y hy
 obtain⟨m,hm,rfl⟩:=qaJ hy
 rw[h i m hi hm]
 rfl
theorem XV (g:List (List Nat)) (grp out:List Nat) (gv pv ov:Value) (W:World) (hg:∀r∈g,r.length≤1000) (hpl:grp.length≤1000) (hol:out.length≤1000) (ho:∀j∈out,j<g.length) (h1:GrfV W gv g) (h2:NatV W pv grp) (h3:NatV W ov out):
  Calls Tryz.prog 63 #[gv,pv,ov] W (Ret W (.bool (WP (gE g) grp out))):=by
 have HWo:=fun W' (hb:Below W.heap.size W W')=>YJ (Vs pv ov (nI grp) (nI out) W' (by rw[TO];omega) (by rw[TO];omega) (h2.below hb) (h3.below hb))
 have HHas:=fun j (h:j<g.length) v y W' (k:NatV W' v g[j])=>YJ (Wn g j h v y W' (by have:=hg _ (qaB h);omega) k)
 have HY:=YJ (@Yp (gE g) grp out)
 have HNo:=fun i m (hi:i<out.length) hm=>YJ (@Ys (gE g) grp out i m hi hm)
 have HOl:=fun i (hi:i<out.length)=>YJ (ho _ (qaB hi))
 obtain⟨ga,gn,gc,rfl,hgn, -,hgx⟩:=h1
 obtain⟨oa,on,oc,rfl,hon,hox⟩:=h3.at
 obtain⟨pa,pn,pc,rfl, -⟩:=h2.at
 have Hon:=YJ hon
 have HG:=YJ hgx
 have HGn:=YJ hgn
 have HO:=YJ hox
 have hl1:(grp.filter fun y=> !out.contains y).length≤1000:=qaD (List.length_filter_le _ _) hpl
 have Hw:Hid (Ug (nI grp) (nI out)=nI (grp.filter fun y=> !out.contains y)):=YJ (VV _ _)
 rw[Hw.out]at HWo
 clear hgx hgn hox h2 h3 hg ho hpl Hw
 generalize WP (gE g) grp out=res at*
 generalize(grp.filter fun y=> !out.contains y)=rest at*
 rw[hon]at hol
 clear hon
 go_enter Tryz.func63,Tryz.ntmps63
 go_wp2_with fail
 refine((HWo _ bel).out).mono ?_
 rintro e w1 ⟨rv,rfl,hb1,hr1⟩
 have hR1:NatV w1 rv rest:=jy hr1
 have hbw1:Below W.heap.size W w1:=by first|exact hb1|exact fB bel hb1
 obtain⟨ra,rn,rc,rfl,hrn,hrx⟩:=hR1.at
 have HR:=YJ hrx
 have Hrn:=YJ hrn
 rw[hrn]at hl1
 clear hrn
 clear HWo hr1 hR1 hrx hb1
 go_wp2
 go_loopw [8] (fun x wr=>∃i:Nat,i≤on∧x= .int .i64 i∧Below w1.heap.size w1 wr∧Hid (∀j m (hj:j<out.length) (hm:m<rest.length),j<i→gE g out[j] rest[m]=false)) (fun x _=>on-(intOf x).toNat)
 case atStart=>exact⟨0,by omega,rfl,brf,YJ (fun j m _ _ h=>by omega)⟩
 case round=>
  obtain⟨i,hi,rfl,hb,Hd⟩:=hrel
  by_cases hlt:i<on
  ·have g1:(i:Int)<(on:Int):=by omega
   have g2:(0:Int)≤(i:Int):=by omega
   have hil:i<out.length:=by have:=Hon.out;omega
   obtain⟨ob,ooff,rfl,hox⟩:=HO.out (by omega)
   have e0:=hox i hil
   have hj:=(HOl i hil).out
   have hgn0:out[i]<gn:=by have:=HGn.out;omega
   have HGx:=YJ (hj)
   obtain⟨gb,goff,rfl,hgx⟩:=HG.out (by omega)
   obtain⟨rowv,e1,hrow⟩:=hgx out[i] hj
   have HNi:=fun m hm=>YJ (HNo i m hil hm).out
   have Hst:Hid ((∀m (hm:m<rest.length),gE g out[i] rest[m]=false)→∀j m (hj:j<out.length) (hm:m<rest.length),j<i+1→gE g out[j] rest[m]=false):=YJ (fun h j m hj hm hji=>by
    by_cases e:j=i
    ·subst e;exact h m hm
    ·exact Hd.out j m hj hm (by omega))
   have HHi:=fun v y W' (k:NatV W' v g[out[i]])=>YJ (HHas out[i] hj v y W' k).out
   have HRow:=YJ hrow
   clear HO HOl HG hox hgx HNo HHas Hd HY hrow
   have hbW:=fB hbw1 hb
   obtain⟨wo,rfl⟩:∃wo:World,wo=wr:=⟨_,rfl⟩
   go_wp2
   go_loopw [9] (fun x wr=>∃m:Nat,m≤rn∧x= .int .i64 m∧Below wo.heap.size wo wr∧Hid (∀q (hq:q<rest.length),q<m→gE g out[i] rest[q]=false)) (fun x _=>rn-(intOf x).toNat)
   case atStart=>exact⟨0,by omega,rfl,brf,YJ (fun q _ h=>by omega)⟩
   case round=>
    obtain⟨m,hm,rfl,hbw,Hd⟩:=hrel
    by_cases hmr:m<rn
    ·have g3:(m:Int)<(rn:Int):=by omega
     have g4:(0:Int)≤(m:Int):=by omega
     have hml:m<rest.length:=by have:=Hrn.out;omega
     obtain⟨rb,roff,rfl,hrx⟩:=HR.out (by omega)
     have hbWw:=fB hbW hbw
     have f0:=ab hbWw e0
     have f1:=ab hbWw e1
     have f2:=ab (fB hb hbw) (hrx m hml)
     have z0:=qaC wr _ f0
     have z1:=qaC wr _ f1
     have z2:=qaC wr _ f2
     simp only at z0 z1 z2
     have HNm:=YJ (HNi m hml).out
     have HC:=fun W' (h':Below W.heap.size W W')=>YJ (HHi rowv rest[m] W' (HRow.out.below h')).out
     have Hs2:Hid (gE g out[i] rest[m]=false→∀q (hq:q<rest.length),q<m+1→gE g out[i] rest[q]=false):=YJ (fun h q hq hqm=>by
      by_cases e:q=m
      ·subst e;exact h
      ·exact Hd.out q hq (by omega))
     obtain⟨rwa,rwn,rwc,hrwv, -⟩:=HRow.out.at
     subst hrwv
     clear HR hrx HNi HHi Hd Hst
     generalize gE g out[i] rest[m]=cb at*
     generalize g[out[i]]=row at*
     generalize out[i]=jj at*
     generalize rest[m]=yy at*
     have g5:(jj:Int)<(gn:Int):=by omega
     have g6:(0:Int)≤(jj:Int):=by omega
     go_wp2
     refine wqb ?_
     repeat(first|go_big_quiet_step ((go_at_call 68;refine((HC _ (fB hbWw (Ext.below _))).out).mono ?_;rintro e w9 ⟨rfl,rfl⟩;exact⟨rfl,_,rfl⟩))|quiet_step ((go_at_call 68;refine((HC _ (fB hbWw (Ext.below _))).out).mono ?_;rintro e w9 ⟨rfl,rfl⟩;exact⟨rfl,_,rfl⟩)))
     refine wqn fun u=> ?_
     have hbu:=fB hbw u.below
     cases cb with
     |true=>
      obtain rfl:=HNm.out rfl
      go_wp2
      go_ret
      exact⟨by first|rfl|trivial,fB hbW hbu⟩
     |false=>
      go_wp2
      go_roundw
      case rel=>exact⟨m+1,by omega,by go_num,hbu,YJ (Hs2.out rfl)⟩
      case measure=>first|(simp[intOf];done)|(simp[intOf];omega)
    ·obtain rfl:m=rn:=by omega
     have Hs3:=YJ (Hst.out (fun q hq=>Hd.out q hq (by have:=Hrn.out;omega)))
     clear HR HNi HHi Hd Hst
     go_wp2
     go_roundw
     case rel=>exact⟨i+1,by omega,by go_num,fB hb hbw,Hs3⟩
     case measure=>first|(simp[intOf];done)|(simp[intOf];omega)
  ·obtain rfl:i=on:=by omega
   obtain rfl:=HY.out (fun j m hj hm=>Hd.out j m hj hm (by have:=Hon.out;omega))
   clear HO HG HR HNo HHas Hd HOl
   go_wp2
   go_ret
   exact⟨by first|rfl|trivial,fB hbw1 hb⟩
theorem Vv {E:Nat→Nat→Bool} {grp acc:List Nat} {x k:Nat} (h:k<grp.length):Tw E (grp.take (k+1)) x acc=if(E x grp[k]&& !(Tw E (grp.take k) x acc).contains grp[k])=true then Tw E (grp.take k) x acc++[grp[k]]else Tw E (grp.take k) x acc:=by
 unfold Tw
 rw[qaI h,List.foldl_append]
 rfl
theorem Vc (E:Nat→Nat→Bool) (x:Nat):∀(grp acc:List Nat),(Tw E grp x acc).length≤acc.length+grp.length
 | [],acc=>by simp[Tw]
 |z::grp,acc=>by
  have hs:Tw E (z::grp) x acc=Tw E grp x (if E x z&& !acc.contains z then acc++[z]else acc):=rfl
  rw[hs]
  have:=Vc E x grp (if E x z&& !acc.contains z then acc++[z]else acc)
  have hle:(if E x z&& !acc.contains z then acc++[z]else acc).length≤acc.length+1:=by split<;>simp
  rw[List.length_cons]
  omega
theorem Wa {E:Nat→Nat→Bool} {grp acc:List Nat} {x i:Nat} (hn:acc.Nodup) (hi:i<acc.length):∃h:i<(Tw E grp x acc).length,(Tw E grp x acc)[i]=acc[i]:=by
 obtain⟨-,⟨t,ht⟩, -⟩:=TP E x grp acc hn
 rw[ht]
 exact⟨by rw[qaE];omega,by rw[List.getElem_append_left hi]⟩
theorem Wb {E:Nat→Nat→Bool} {grp acc:List Nat} {f i:Nat} (h:i<acc.length):Um E grp (f+1) i acc=Um E grp f (i+1) (Tw E grp acc[i] acc):=by rw[Um,dif_pos h]
theorem Wo {E:Nat→Nat→Bool} {grp acc:List Nat}:∀f,Um E grp f acc.length acc=acc
 |0=>rfl
 |f+1=>by rw[Um,dif_neg (by omega)]
theorem BfsI.lt {E:Nat→Nat→Bool} {grp:List Nat} {n i G:Nat} {acc:List Nat} (h:BfsI E grp n i acc) (hn:n<G) (hg:∀y∈grp,y<G):∀y∈acc,y<G:=fun y hy=>by
 have:=h.rch y hy
 cases this with
 |base=>exact hn
 |step _ _ g=>exact hg _ g
theorem WE (grp acc:List Nat):grp.filter (fun y=> !(grp.filter fun y=> !acc.contains y).contains y)=grp.filter fun y=>acc.contains y:=by
 refine List.filter_congr fun y hy=> ?_
 rw[Bool.eq_iff_iff]
 simp[hy]
theorem VP {f:Nat} {a:Array Value} {W:World} {b:Bool} (h:Calls Tryz.prog f a W (fun e w'=>e= .returned (.bool b)∧w'=W)):Calls Tryz.prog f a W (Ret W (.bool b)):=h.mono fun e w' k=>⟨k.1,by rw[k.2];exact brf⟩
theorem Vn (g:List (List Nat)) (grp:List Nat) (n:Nat) (gv pv:Value) (W:World) (hg:∀r∈g,r.length≤1000) (hpl:grp.length≤1000) (hn:n<g.length) (hp:∀y∈grp,y<g.length) (h1:GrfV W gv g) (h2:NatV W pv grp):
  Calls Tryz.prog 105 #[gv,pv, .int .i64 n] W (Wu (nI (TU (gE g) grp n)) W):=by
 obtain⟨i0,hi0,hz0,hz1,hz2⟩:=info_parts In
 have Hi0:=YJ (And.intro hi0 (And.intro hz0 (And.intro hz1 hz2)))
 clear hi0 hz0 hz1 hz2
 have HHas:=fun j (h:j<g.length) v y W' (k:NatV W' v g[j])=>YJ (Wn g j h v y W' (by have:=hg _ (qaB h);omega) k)
 have HEnd:=fun(acc:List Nat) (hl:acc.length≤1001) v W' (hb:Below W.heap.size W W') (k:NatV W' v acc)=>YJ (show Calls Tryz.prog 64 #[pv,v] W' (Wu (nI (grp.filter fun y=> !acc.contains y)) W')from by rw[←VV];exact Vs pv v (nI grp) (nI acc) W' (by rw[TO];omega) (by rw[TO];omega) (h2.below hb) k)
 obtain⟨FIN,HF⟩:∃FIN,Hid (Um (gE g) grp (grp.length+1) 0 [n]=FIN):=⟨_,YJ rfl⟩
 have HFin:Hid (TU (gE g) grp n=grp.filter fun y=>FIN.contains y):=YJ (by unfold TU;rw[HF.out])
 have hnG:=hn
 have HLt:=fun i acc (h:BfsI (gE g) grp n i acc)=>YJ (h.lt hn hp)
 obtain⟨ga,gn,gc,rfl,hgn, -,hgx⟩:=h1
 obtain⟨pa,pn,pc,rfl,hpn,hpx⟩:=h2.at
 have Hpn:=YJ hpn
 have HG:=YJ hgx
 have HGn:=YJ hgn
 have HP:=YJ hpx
 have HPl:=fun k (h:k<grp.length)=>YJ (hp _ (qaB h))
 have HSs:=fun x acc k (h:k<grp.length)=>YJ (@Vv (gE g) grp acc x k h)
 have Hfull:Hid (grp.take grp.length=grp):=YJ List.take_length
 rw[hpn]at HF hpl Hfull
 clear hgx hgn hpx h2 hg hp hpn
 rw[HFin.out]
 go_enter Tryz.func105,Tryz.ntmps105
 go_wp2
 go_loopw [7,8] (fun s x wr=>∃(i:Nat) (acc:List Nat),x= .int .i64 i∧Below W.heap.size W wr∧Hid (OwnI W.heap.size wr s acc)∧Hid (BfsI (gE g) grp n i acc)∧Hid (Um (gE g) grp (pn+1-i) i acc=FIN)) (fun _ x _=>pn+2-(intOf x).toNat)
 case atStart=>exact⟨0,[n],rfl,bel,YJ (Wv (T:=3) (v:= .int .i64 n) (qaA _) (ai rfl)),YJ (BfsI.start _ _ _),HF⟩
 case round=>
  obtain⟨i,acc,rfl,hb,HO,HI,HB⟩:=hrel
  have HOs:=YJ (HO.out)
  obtain⟨oa,oc,rfl⟩:=aT HO.out
  have hal:acc.length≤pn+1:=by have:=HI.out.len;rw[Hpn.out]at this;exact this
  have hia:i≤acc.length:=HI.out.le
  by_cases hlt:i<acc.length
  ·obtain⟨f,hf⟩:∃f,pn+1-i=f+1:=⟨pn-i,by omega⟩
   have HB2:Hid (Um (gE g) grp (pn+1-(i+1)) (i+1) (Tw (gE g) grp acc[i] acc)=FIN):=YJ (by have:=HB.out;rw[hf,Wb hlt]at this;rw[show pn+1-(i+1)=f by omega];exact this)
   have HI2:=YJ (HI.out.next hlt)
   have hjG:=(HLt i acc HI.out).out acc[i] (qaB hlt)
   have hnd:=HI.out.nd
   have Hat:=fun k=>YJ (@Wa (gE g) (grp.take k) acc acc[i] i hnd hlt)
   have HLn:=fun k=>YJ (Vc (gE g) acc[i] (grp.take k) acc)
   have HSi:=fun k (h:k<grp.length)=>YJ (HSs acc[i] acc k h).out
   have Hst0:Hid (Tw (gE g) (grp.take 0) acc[i] acc=acc):=YJ (by simp[Tw])
   obtain⟨gb,goff,rfl,hgx⟩:=HG.out (by have:=HGn.out;omega)
   obtain⟨rowv,e1,hrow⟩:=hgx acc[i] hjG
   have HRow:=YJ hrow
   have HHi:=fun v y W' (k:NatV W' v g[acc[i]])=>YJ (HHas acc[i] hjG v y W' k).out
   clear hgx hrow HHas HG hnd HSs HB HI hf HF HEnd HFin
   have g1:(i:Int)<(acc.length:Int):=by omega
   have g2:(0:Int)≤(i:Int):=by omega
   have hjn:acc[i]<gn:=by have:=HGn.out;omega
   generalize acc[i]=jj at*
   generalize g[jj]=row at*
   have g5:(jj:Int)<(gn:Int):=by omega
   have g6:(0:Int)≤(jj:Int):=by omega
   obtain⟨wo,rfl⟩:∃wo:World,wo=wr:=⟨_,rfl⟩
   go_wp2
   go_loopw [7,9] (fun s x wr=>∃k:Nat,k≤pn∧x= .int .i64 k∧Below W.heap.size W wr∧Hid (OwnI W.heap.size wr s (Tw (gE g) (grp.take k) jj acc))) (fun _ x _=>pn-(intOf x).toNat)
   case atStart=>exact⟨0,by omega,rfl,hb,YJ (by rw[Hst0.out];exact HOs.out)⟩
   case round=>
    obtain⟨k,hk,rfl,hbw,HO2⟩:=hrel
    obtain⟨hx1,hx2⟩:=(Hat k).out
    have HO2i:=YJ (HO2.out.ints)
    obtain⟨ia,an2,ic,rfl,han2,hix⟩:=NatV.at HO2i.out
    subst han2
    obtain⟨ib,ioff,rfl,hix2⟩:=hix (by omega)
    have e0:=hix2 i hx1
    rw[hx2]at e0
    have z0:=qaC wr _ e0
    simp only at z0
    have hl2:(Tw (gE g) (grp.take k) jj acc).length≤3000:=by have h1:=(HLn k).out;rw[List.length_take]at h1;omega
    clear hix hix2 hx2 HO HOs Hst0
    by_cases hkp:k<pn
    ·have hkl:k<grp.length:=by have:=Hpn.out;omega
     have HSk:=YJ (HSi k hkl).out
     obtain⟨pb,poff,rfl,hpx⟩:=HP.out (by omega)
     have f1:=ab hbw e1
     have f2:=ab hbw (hpx k hkl)
     have z1:=qaC wr _ f1
     have z2:=qaC wr _ f2
     simp only at z1 z2
     have HC1:=fun W' (h':Below W.heap.size W W')=>YJ (VP (HHi rowv grp[k] W' (HRow.out.below h')).out)
     have HC2:=fun W' (h':Below wr.heap.size wr W')=>YJ (VP (Vu _ _ grp[k] W' (by omega) (NatV.below HO2i.out h')))
     obtain⟨rwa,rwn,rwc,hrwv, -⟩:=HRow.out.at
     subst hrwv
     clear HP hpx HHi HSi Hat HLn HLt HPl HO2i HRow HI2 HB2 Hfull
     obtain⟨P2,HP2⟩:∃P2,Hid (Tw (gE g) (grp.take (k+1)) jj acc=P2):=⟨_,YJ rfl⟩
     rw[HP2.out]at HSk
     generalize Tw (gE g) (grp.take k) jj acc=P at*
     generalize gE g jj grp[k]=cb1 at*
     generalize grp[k]=yy at*
     generalize P.contains yy=cb2 at*
     have g3:(k:Int)<(pn:Int):=by omega
     have g4:(0:Int)≤(k:Int):=by omega
     have g7:(i:Int)<(P.length:Int):=by omega
     cases cb1 with
     |false=>
      have HS2':P2=P:=by rw[HSk.out];simp
      clear HC2 HSk
      go_wp2
      refine wqb ?_
      repeat(first|go_big_quiet_step ((go_at_call 68;exact aE ((HC1 _ (fB hbw (Ext.below _))).out)))|quiet_step ((go_at_call 68;exact aE ((HC1 _ (fB hbw (Ext.below _))).out))))
      refine wqn fun u=> ?_
      have hbu:=fB hbw u.below
      have HOu:=YJ (HO2.out.below u.below)
      go_wp2
      go_roundw
      case rel=>exact⟨k+1,by omega,by go_num,hbu,YJ (by rw[HP2.out,HS2'];exact HOu.out)⟩
      case measure=>first|(simp[intOf];done)|(simp[intOf];omega)
     |true=>
      go_wp2
      apply aj [] [0,1,2,3,4,5,6,7,8,9,10,11,12,13,14,15,16,17,18,19] 20 [] [sv _,sv _,sv _,sv _,sv _,sv _,sv _,sv _,sv _,sv _,sv _,sv _,sv _,sv _,sv _,sv _,sv _,sv _,sv _,sv _] (by kernel_rfl) (by kernel_rfl)
      iterate 11 ((try go_frame);refine wkQ ?_)
      try go_frame
      refine wkV ?_
      apply ex3
      ·intro u K hK
       go_simp
       refine((HC1 _ (fB hbw u.below)).out).mono ?_
       rintro e w9 ⟨rfl,hb9⟩
       exact hK _ hb9
      rfl
      ((try go_frame);refine wkQ ?_)
      iterate 5 ((try go_frame);refine Ae rfl rfl (by simp) (by simp[Region.wanted,yielded]) ?_;apply ex3;(focus(intro u K hK;go_simp;exact hK _ brf));rfl)
      try go_frame
      refine Ae rfl rfl (by simp) (by simp[Region.wanted,yielded]) ?_
      apply ex3
      ·intro u K hK
       go_simp
       refine((HC2 _ u.below).out).mono ?_
       rintro e w9 ⟨rfl,hb9⟩
       exact hK _ hb9
      rfl
      iterate 1 ((try go_frame);refine Ae rfl rfl (by simp) (by simp[Region.wanted,yielded]) ?_;apply ex3;(focus(intro u K hK;go_simp;exact hK _ brf));rfl)
      try go_frame
      refine aI (fun u hR=> ?_)
      have hbu:=fB hbw u.below
      have HOu:Hid (u.val.ownsRow W.heap.size 3 1 (.slice (some ⟨ib,ioff,none⟩) P.length ic) P.length (P.map iV)):=YJ (HO2.out.below u.below)
      have f1':=ab u.below f2
      have z3:=qaC u.val _ f1'
      simp only at z3
      clear hR HC1 HC2 HO2 e0 f1 f2 z0 z1 z2
      generalize u.val=w5 at*
      clear u
      simp only[oas]
      go_wp2
      refine NoPanic.normal ?_
      cases cb2 with
      |true=>
       have HS2':P2=P:=by rw[HSk.out];simp
       go_wp2
       go_roundw
       case rel=>exact⟨k+1,by omega,by go_num,hbu,YJ (by rw[HP2.out,HS2'];exact HOu.out)⟩
       case measure=>first|(simp[intOf];done)|(simp[intOf];omega)
      |false=>
       have HS2':P2=P++[yy]:=by rw[HSk.out];simp
       clear HSk
       go_wp2_with (at_builtin;refine wpList_append_own _ rfl _ _ 49 rfl W.heap.size 3 i0 (.int .i64 0) 1 8 Io Hi0.out.1 Hi0.out.2.1 Hi0.out.2.2.1 Hi0.out.2.2.2 rfl (by decide) _ P.length _ rfl ((HOu).out.alloc _) ⟨_,0,none⟩ 1 1 [.int .i64 yy] rfl rfl ?c1 ?c2 ?c3 ?c4 ?c5 ?_)
       case c1=>
        intro jj uu hu
        rw[jY,aq (by simp) jj]
        simpa using hu
       case c2=>intro v hv;simp at hv;subst hv;rfl
       case c3=>unfold maxLen;omega
       case c4=>omega
       case c5=>simp;have:=(hbu).size;omega
       intro v' w4 hown4 hg4 hu4
       have hb4:Below W.heap.size W w4:=((hbu).alloc (hbu).size _).grown hg4 (by simp;have:=(hbu).size;omega) (fun z hz=>by have:=((HOu).out.lt z hz).1;omega)
       have HO4:Hid (w4.ownsRow W.heap.size 3 1 v' (P2).length ((P2).map iV)):=YJ (by rw[show P2=P++[yy]from HS2',qaE,List.map_append];exact hown4)
       clear hown4 hg4 hu4
       obtain⟨va,vc,rfl⟩:=aT HO4.out
       clear HOu f1' z3
       go_wp2
       go_roundw
       case rel=>exact⟨k+1,by omega,by go_num,hb4,YJ (by rw[HP2.out];exact HO4.out)⟩
       case measure=>first|(simp[intOf];done)|(simp[intOf];omega)
    ·obtain rfl:k=pn:=by omega
     rw[Hfull.out]at HO2
     clear HP HHi HSi Hat HLn HO2i HRow
     go_wp2
     go_roundw
     case rel=>exact⟨i+1,Tw (gE g) grp jj acc,by go_num,hbw,by first|exact HO2|(rw[Hfull.out];exact HO2)|(rw[Hfull.out]at HO2 ⊢;exact HO2),HI2,HB2⟩
     case measure=>first|(simp[intOf];done)|(simp[intOf];omega)
  ·obtain rfl:i=acc.length:=by omega
   have hfin:acc=FIN:=by rw[←HB.out,Wo]
   subst hfin
   have HW1:=YJ (HEnd acc (by omega) _ wr hb HOs.out.ints).out
   clear HG HP HHas HSs HPl HLt
   go_wp2_with fail
   refine(HW1.out).mono ?_
   rintro e w1 ⟨v1,rfl,hb1,ho1⟩
   have hbw1:=fB hb hb1
   have HW2:=YJ (HEnd (grp.filter fun y=> !acc.contains y) (qaD (List.length_filter_le _ _) (by have:=Hpn.out;omega)) v1 w1 hbw1 (jy ho1)).out
   rw[WE]at HW2
   generalize nI (grp.filter fun y=> !acc.contains y)=R1 at ho1
   obtain⟨va,vc,rfl⟩:=aT ho1
   generalize R1.length=rl at*
   clear HEnd HW1 ho1
   go_wp2_with fail
   refine(HW2.out).mono ?_
   rintro e w2 ⟨v2,rfl,hb2,ho2⟩
   obtain⟨va2,vn2,vc2,rfl⟩:∃a n c,v2= .slice a n c:=by obtain⟨a,c,h⟩:=aT ho2;exact⟨_,_,_,h⟩
   have HO3:=YJ (AY ho2 hbw1.size)
   clear ho2 HW2
   go_wp2
   go_ret
   exact⟨_,rfl,fB hbw1 hb2,HO3.out⟩
end
section
open Go.RowKit Go.Shelf Go.Lib
attribute [local go_sem] Ext.cell Ext.frozen
def OwnGs (B:Nat) (w:World) (v:Value) (gs:List (List (List Nat))):Prop:=∃vs,w.ownsRow B 37 1 v gs.length vs∧RowsP (OwnG B w) vs gs
theorem OwnGs.below {B:Nat} {w w':World} {v:Value} {g:List (List (List Nat))} (h:OwnGs B w v g) (hb:Below w.heap.size w w'):OwnGs B w' v g:=by
 obtain⟨vs,h1,h2⟩:=h
 exact⟨vs,au h1 hb,h2.imp fun _ _ h=>h.below hb⟩
theorem WF (l:List (List (List Q4))) (w:Q3):gE (TF l w)=rE l w:=by
 funext j k
 unfold gE rE
 congr 1
 unfold TF
 by_cases hj:j<l.length
 ·simp[List.getD,hj]
 ·have e:l.getD j []=[]:=by simp[List.getD,hj]
  unfold UQ
  rw[e]
  simp[List.getD,hj,SG]
theorem Ww (l:List (List (List Q4))) (w:Q3):∀r∈TF l w,r.length≤l.length:=fun r hr=>by
 unfold TF at hr
 obtain⟨i, -,rfl⟩:=List.mem_map.1 hr
 unfold UQ
 exact qaD (List.length_filter_le _ _) (by simp)
def SplA (w:World) (b off:Nat) (s:Spl):Prop:=∃gv ov,w.cell? ⟨b,off,none⟩=some gv∧w.cell? ⟨b,off+1,none⟩=some ov∧w.cell? ⟨b,off+2,none⟩=some (.int .i64 s.2.2.1)∧w.cell? ⟨b,off+3,none⟩=some (.int .i64 s.2.2.2.1)∧w.cell? ⟨b,off+4,none⟩=some (.int .i64 s.2.2.2.2)∧Ints w gv s.1∧Ints w ov s.2.1
theorem SplA.below {w w':World} {b off:Nat} {s:Spl} (h:SplA w b off s) (hb:Below w.heap.size w w'):SplA w' b off s:=by
 obtain⟨gv,ov,h1,h2,h3,h4,h5,h6,h7⟩:=h
 exact⟨gv,ov,ab hb h1,ab hb h2,ab hb h3,ab hb h4,ab hb h5,h6.below hb,h7.below hb⟩
theorem We {l:List (List (List Q4))} (hf:Ow l=true) (h:eB l=0):∀s∈l,s.length≤100∧∀c∈s,SI c:=fun s hs=>by
 have h0:=(sq h).2 s hs
 refine⟨(xb h0).1,fun c hc=> ?_⟩
 have h1:=IL h0 c hc
 refine⟨h1, ?_⟩
 have h2:=(jx h1).1
 unfold Ow at hf
 rw[qaF,alsi]at hf
 have hf:=hf.2 s hs
 unfold Oa at hf
 rw[qaF,alsi]at hf
 have h3:=hf.2 c hc
 unfold NX at h3
 simp only[Bool.or_eq_true,qaF,decide_eq_true_eq]at h3
 omega
theorem XS (ps:List (List Bod)) (sb mb:Nat) (pv:Value) (W:World) (hl:ps.length≤12) (hS:W.heap[sb]? =some (.cells #[pv, .map (some mb)] 171 (0,0))) (hP:PtsV W pv ps):
  Calls Tryz.prog 56 #[.pointer (some ⟨sb,0,none⟩)] W (fun e w'=>e= .returned (.int .u64 ((2 ^ ps.length-1:Nat):Int))∧w'=W):=by
 obtain⟨a,n,c,rfl,hn, -, -⟩:=hP
 rw[hn]at hl ⊢
 clear hn
 obtain⟨s0,s1,sz⟩:=xv hS
 have hp:(2:Nat) ^ n<2 ^ 13:=Nat.pow_lt_pow_right (by decide) (by omega)
 have hp0:0<(2:Nat) ^ n:=Nat.two_pow_pos _
 have sh:IntKind.u64.wrap (2 ^ n)=((2 ^ n:Nat):Int):=by
  have e:((2:Int) ^ n)=((2 ^ n:Nat):Int):=by simp
  rw[IntKind.wrap_u64,e]
  generalize 2 ^ n=P at*
  omega
 have sh2:IntKind.u64.wrap (2 ^ ((n:Int).toNat))=((2 ^ n:Nat):Int):=sh
 have sb1:IntKind.u64.wrap (((2 ^ n:Nat):Int)-1)=((2 ^ n-1:Nat):Int):=by
  rw[IntKind.wrap_u64]
  generalize 2 ^ n=P at*
  omega
 have hn64:(n:Int)≤64:=by omega
 have hn64':n≤64:=by omega
 obtain⟨P,HP⟩:∃P:Nat,Hid (2 ^ n=P):=⟨_,YJ rfl⟩
 rw[HP.out]at sh sh2 sb1 ⊢
 go_enter Tryz.func56,Tryz.ntmps56
 go_wp2
 go_ret
 exact⟨by first|rfl|trivial,by first|rfl|trivial⟩
end
section
open Go.RowKit Go.Shelf Go.Lib
set_option maxRecDepth 100000
attribute [local go_sem] Ext.cell Ext.frozen
theorem Yu {x y z:Int} (h:mK (x,y,z)=0):(x,y,z)∈ways26:=by
 unfold mK at h
 simp only at h
 split at h
 ·rename_i hb
  split at h
  ·cases h
  ·rename_i hz
   have hx:x= -1∨x=0∨x=1:=by omega
   have hy:y= -1∨y=0∨y=1:=by omega
   have hz':z= -1∨z=0∨z=1:=by omega
   rcases hx with rfl|rfl|rfl<;>rcases hy with rfl|rfl|rfl<;>rcases hz' with rfl|rfl|rfl<;>first|decide|exact absurd (by decide) hz
 ·cases h
def psB (l:List (List (List Q4))):List (List Bod):=l.map (·.map bp)
theorem WM (l:List (List (List Q4))):(psB l).length=l.length:=List.length_map _
theorem XO {l:List (List (List Q4))} {lv:Value} (W:World) (h0:eB l=0) (h:SolsV W lv l):Calls Tryz.prog 47 #[lv] W (ScP (psB l) W):=
 Fe l lv W (fun s hs=>⟨(rg ((sq h0).2 s hs)).1,qaD (rg ((sq h0).2 s hs)).2 (by decide)⟩) (qaD (sq h0).1 (by decide)) h
theorem XW {l:List (List (List Q4))} {v:Q3} (h0:eB l=0) (hv:v∈ways26) (sb mb m0:Nat) (D:DataW Value) (pv:Value) (W:World) (hm:m0≤1000) (k1:W.heap[sb]? =some (.cells #[pv, .map (some mb)] 171 (0,0))) (k2:MapS W mb m0 D (eM (psB l))) (k3:PtsV W pv (psB l)):
  Calls Tryz.prog 49 #[.pointer (some ⟨sb,0,none⟩),vW v] W (GrP mb m0 (eM (psB l)) v W):=
 Iu m0 D (psB l) v sb mb pv W hv (fun p hp=>by
  obtain⟨s,hs,rfl⟩:=List.mem_map.1 hp
  have:=rg ((sq h0).2 s hs)
  exact⟨Dm this.1,by rw[List.length_map];exact qaD this.2 (by decide)⟩) (by rw[WM];exact(sq h0).1) k1 k2 hm (KE h0 v hv) k3
theorem Yv {W:World} {mb:Nat} {Gf:Q3→List Nat} (k:OwM W mb 0 (.map [])):MapS W mb 0 (.map []) Gf:=⟨k,fun v _ hh=>by simp[Maps.has]at hh⟩
theorem WK (l:List (List (List Q4))) (v:Q3):(eM (psB l) v).length=l.length:=by simp[eM,psB]
theorem XZ {l:List (List (List Q4))} (h0:eB l=0) (v:Q3):∀x∈eM (psB l) v,x<4096:=fun x hx=>by
 obtain⟨i,_,rfl⟩:=List.mem_map.1 hx
 exact Ei _ _ _ _ (by rw[WM];exact(sq h0).1)
def gwE (l:List (List (List Q4))) (w:Q3):Int:=if eB l=0 then mK w else eB l
def qaw (l:List (List (List Q4))) (w:Q3) (W:World) (e:Ending) (w':World):Prop:=Below W.heap.size W w'∧
 ((gwE l w≠0∧e= .returned (.tuple #[.slice none 0 0, .int .i64 (gwE l w)]))∨(gwE l w=0∧∃v,e= .returned (.tuple #[v, .int .i64 0])∧OwnG W.heap.size w' v ((eM (psB l) w).map av)))
theorem qah (l:List (List (List Q4))) (lv:Value) (x y z:Int) (W:World) (hL:∀s∈l,∀c∈s,c.length≤1000000) (h:SolsV W lv l) (hT:TabAt 1 Lib.deBruijn64tab W):
  Calls Tryz.prog 17 #[lv,V3 x y z] W (qaw l (x,y,z) W):=by
 obtain⟨i1,hj0,hy0,hy1,hy2⟩:=info_parts VX
 have Hi1:=YJ (And.intro hj0 (And.intro hy0 (And.intro hy1 hy2)))
 clear hj0 hy0 hy1 hy2
 have HCk:=fun W' (h':Below W.heap.size W W')=>YJ (Gd l lv W' hL (SolsV.below h h'))
 have HCW:=fun W'=>YJ (Ru x y z W')
 have HSc:=fun(h0:eB l=0) W' (h':Below W.heap.size W W')=>YJ (XO W' h0 (SolsV.below h h'))
 have HGr:=fun(h0:eB l=0) (h1:mK (x,y,z)=0) sb mb pv W' k1 k2 k3=>YJ (show Calls Tryz.prog 49 #[.pointer (some ⟨sb,0,none⟩),V3 x y z] W' (GrP mb 0 (eM (psB l)) (x,y,z) W')from XW h0 (Yu h1) sb mb 0 (.map []) pv W' (by omega) k1 (Yv k2) k3)
 have HLi:=fun s W' (hs:s<4096) (hb:Below W.heap.size W W')=>YJ (ES s W' hs (ma hT hb))
 have Hlt:=fun(h0:eB l=0)=>YJ (XZ h0 (x,y,z))
 have Hl12:=fun(h0:eB l=0)=>YJ (show(eM (psB l) (x,y,z)).length≤12 from by rw[WK];exact(sq h0).1)
 have He1:Hid (eB l≠0→gwE l (x,y,z)=eB l):=YJ (fun h=>by unfold gwE;rw[if_neg h])
 have He2:Hid (eB l=0→gwE l (x,y,z)=mK (x,y,z)):=YJ (fun h=>by unfold gwE;rw[if_pos h])
 obtain⟨G,HG⟩:∃G,Hid (eM (psB l) (x,y,z)=G):=⟨_,YJ rfl⟩
 have HGP:=fun mb W' e w' (h:GrP mb 0 (eM (psB l)) (x,y,z) W' e w')=>YJ (show ∃g,e= .returned (.slice (some ⟨g,0,none⟩) G.length G.length)∧Below mb W' w'∧GphAt w' g G from by
  obtain⟨g,m',D',he,hb, -, -,hg, -⟩:=h
  rw[HG.out]at he hg
  exact⟨g,he,hb,hg⟩)
 have HGr':=fun(h0:eB l=0) (h1:mK (x,y,z)=0) sb mb pv W' k1 k2 k3=>YJ ((HGr h0 h1 sb mb pv W' k1 k2 k3).out.mono fun e w' h=>(HGP mb W' e w' h).out)
 have Hpost:Hid (∀e w',(Below W.heap.size W w'∧((gwE l (x,y,z)≠0∧e= .returned (.tuple #[.slice none 0 0, .int .i64 (gwE l (x,y,z))]))∨(gwE l (x,y,z)=0∧∃v,e= .returned (.tuple #[v, .int .i64 0])∧OwnG W.heap.size w' v (G.map av))))→qaw l (x,y,z) W e w'):=YJ (fun e w' h=>by rw[←HG.out]at h;exact h)
 rw[HG.out]at Hl12 Hlt
 refine Calls.mono ?_ Hpost.out
 have HlV:Hid (∃a n c,lv= .slice a n c):=YJ (by obtain⟨a,n,c,rfl,_⟩:=h;exact⟨a,n,c,rfl⟩)
 obtain⟨la,ln,lc,rfl⟩:=HlV.out
 clear h hL HlV hT HG HGP HGr Hpost
 generalize eB l=A at*
 generalize mK (x,y,z)=E at*
 generalize gwE l (x,y,z)=R at*
 go_enter Tryz.func17,Tryz.ntmps17
 go_wp2_with fail
 refine((HCk _ bel).out).mono ?_
 rintro e w1 ⟨rfl,hb1⟩
 have hw1:Below W.heap.size W w1:=fB bel hb1
 have HB1:Hid (w1.heap[W.heap.size]? =some (.cells #[.int .i64 x, .int .i64 y, .int .i64 z] 36 (0,0))):=YJ ((hb1.block _ (by simp)).trans (ai rfl))
 clear HCk hb1
 by_cases hA:A=0
 ·subst hA
  have hRE:=He2.out (by first|rfl|trivial)
  subst hRE
  have HSc':=fun W' h'=>YJ (HSc (by first|rfl|trivial) W' h').out
  have HGr2:=fun h1 sb mb pv W' k1 k2 k3=>YJ (HGr' (by first|rfl|trivial) h1 sb mb pv W' k1 k2 k3).out
  have Hlt':=YJ (Hlt (by first|rfl|trivial)).out
  have hl12:=(Hl12 (by first|rfl|trivial)).out
  obtain⟨x0,x1,x2,xf,xz⟩:=NO HB1.out
  clear HSc HGr' Hlt Hl12 He1 He2
  go_wp2_with fail
  refine((HCW _).out).mono ?_
  rintro e w2 ⟨rfl,hb2⟩
  have hw2:=fB hw1 hb2
  have HB2:=YJ ((hb2.block _ (ah HB1.out)).trans HB1.out)
  clear HCW x0 x1 x2 xf xz hb2 HB1
  by_cases hE:R=0
  ·subst hE
   have HGr3:=fun sb mb pv W' k1 k2 k3=>YJ (HGr2 (by first|rfl|trivial) sb mb pv W' k1 k2 k3).out
   obtain⟨x0,x1,x2,xf,xz⟩:=NO HB2.out
   obtain⟨L,HLn⟩:∃L,Hid (G.length=L):=⟨_,YJ rfl⟩
   rw[HLn.out]at HGr3 hl12
   clear HGr2
   go_wp2
   go_cut [24,25,26] (fun s24 s25 s26 wx=>∃g,s24= .slice (some ⟨g,0,none⟩) L L∧s25= .int .i64 L∧s26= .int .i64 0∧GphAt wx g G∧Below w2.heap.size w2 wx)
   case first=>
    go_region_held (fun w'=>w'.cell? ⟨W.heap.size,0,none⟩=some (.int .i64 x)∧w'.cell? ⟨W.heap.size,1,none⟩=some (.int .i64 y)∧w'.cell? ⟨W.heap.size,2,none⟩=some (.int .i64 z)∧Below w2.heap.size w2 w') (exact⟨ab bel x0,ab bel x1,ab bel x2,bel⟩) (first|(have hS3':=hS3;go_at_call 49;refine((HGr3 sb mb pv _ hS3 hM3 hP3).out).mono ?_;rintro e w4 ⟨g,rfl,hb4,hG4⟩;have hb24:Below w2.heap.size w2 w4:=hb3.trans (hb4.mono hmb2);have zz4:=hb24.size)|(go_at_call 47;refine((HSc' _ (fB hw2 bel)).out).mono ?_;rintro e w3 ⟨sb,mb,pv,rfl,hb3,hS3,hM3,hmb,hsb,hne,hP3⟩;have hmb2:w2.heap.size≤mb:=(by first|exact hmb|(simp at hmb;omega));replace hb3:Below w2.heap.size w2 w3:=fB bel hb3;have zz3:=hb3.size))
    all_goals (go_wp2_with fail;go_meet;exact⟨g,rfl,rfl,rfl,hG4,hb24⟩)
   case rest=>
    rename World=>w3
    obtain⟨g,rfl,rfl,rfl,hG,hb3⟩:=hcut
    have HGc:=YJ hG
    have hw3:=fB hw2 hb3
    have zW3:=hw3.size
    have HTk:Hid (∀k (h:k<G.length),(G.map av).take (k+1)=(G.map av).take k++[av G[k]]):=YJ (fun k h=>by rw[qaI (by rw[List.length_map];exact h),List.getElem_map])
    have HTn:Hid ((G.map av).take L=G.map av):=YJ (by rw[←HLn.out, ←List.length_map (f:=av),List.take_length])
    have HTl:Hid ((G.map av).length=L):=YJ (by rw[List.length_map,HLn.out])
    clear HSc' HGr3 x0 x1 x2 xf xz hG HB2 hb3
    obtain⟨GE,HGE⟩:∃GE,Hid (G.map av=GE):=⟨_,YJ rfl⟩
    rw[HGE.out]at HTk HTn HTl
    go_wp2
    go_loopw [8,26] (fun s ix wr=>∃k:Nat,k≤L∧ix= .int .i64 k∧Below w3.heap.size w3 wr∧∃vs,Hid (wr.ownsRow w3.heap.size 49 1 s k vs)∧Hid (RowsP (OwnI w3.heap.size wr) vs (GE.take k))) (fun _ ix _=>L-(intOf ix).toNat)
    case atStart=>exact⟨0,by omega,rfl,brf,[],YJ (World.ownsRow_nil _ _ _ _),YJ (by rw[List.take_zero];exact RowsP.nil)⟩
    case round=>
     obtain⟨k,hk,rfl,hb,vs,HO,HR⟩:=hrel
     obtain⟨oa,oc,rfl⟩:=aT HO.out
     by_cases hlt:k<L
     ·have g1:(k:Int)<(L:Int):=by omega
      have g2:(0:Int)≤(k:Int):=by omega
      have hkl:k<G.length:=by have:=HLn.out;omega
      have c0:=ab hb (HGc.out k hkl)
      have z0:=qaC wr _ c0
      simp only at z0
      have hx:=Hlt'.out G[k] (qaB hkl)
      have HTk':=YJ (HTk.out k hkl)
      have HC:=YJ (HLi G[k] wr hx (fB hw3 hb)).out
      clear HGc Hlt' HTk HLi
      generalize G[k]=q at*
      go_wp2_with fail
      refine(HC.out).mono ?_
      rintro e w5 ⟨v,rfl,hb5,hown⟩
      obtain⟨a5,c5,rfl⟩:=aT hown
      have HN5:=YJ (show OwnI w3.heap.size w5 (.slice a5 (av q).length c5) (av q)from AY hown hb.size)
      have HO5:=YJ (au HO.out hb5)
      have HR5:=YJ (HR.out.imp fun _ _ h=>h.below hb5)
      have hb35:=fB hb hb5
      clear HC hown HO HR c0 z0
      generalize(av q).length=n5 at*
      have hbx:Below w5.heap.size w5 (w5.alloc (.cells #[.slice a5 n5 c5] 49)):=bel
      have HOx:=YJ (au (HO5).out hbx)
      have HNx:Hid ((w5.alloc (.cells #[.slice a5 n5 c5] 49)).heap[w5.heap.size]? =some (.cells #[.slice a5 n5 c5] 49 (0,0))):=YJ (ai rfl)
      have HRx:=YJ (RowsP.snoc ((HR5).out.imp fun _ _ h=>h.below hbx) ((HN5).out.below hbx))
      have zw1:=(hb35).size
      go_wp2_with (at_builtin;refine fq _ rfl _ _ 37 rfl w3.heap.size 49 i1 (.slice none 0 0) 1 24 VY Hi1.out.1 Hi1.out.2.1 Hi1.out.2.2.1 Hi1.out.2.2.2 rfl (by decide) _ k vs rfl HOx.out ⟨w5.heap.size,0,none⟩ 1 1 [.slice a5 n5 c5] rfl rfl ?c1 ?c2 ?c3 ?c4 ?c5 ?_)
      case c1=>
       intro j u hu
       rw[jY,ag HNx.out]
       simpa using hu
      case c2=>
       intro u hu
       simp at hu
       subst hu
       rfl
      case c3=>unfold maxLen;omega
      case c4=>omega
      case c5=>simp;omega
      intro v' w4 hown4 hg4 _
      have hb4:Below w3.heap.size w3 w4:=(fB (hb35) hbx).grown hg4 (by simp;omega) (fun z hz=>(HOx.out.lt z hz).1)
      have HR4:=YJ (HRx.out.imp fun _ _ h=>h.kept (T:=49) (by decide) hg4 (jC HOx.out))
      have HO4:=YJ hown4
      clear hown4 hg4 HOx HNx HRx hbx
      rw[←HTk'.out]at HR4
      go_wp2
      go_roundw
      case rel=>exact⟨k+1,by omega,by go_num,hb4,_,HO4,HR4⟩
      case measure=>first|(simp[intOf];done)|(simp[intOf];omega)
     ·obtain rfl:k=L:=by omega
      have HRn:=HR
      rw[HTn.out]at HRn
      clear HGc Hlt' HTk HLi HR
      go_wp2
      go_ret2
      have hfin:OwnG W.heap.size wr (.slice oa k oc) (G.map av):=by
       rw[HGE.out]
       exact⟨vs,by rw[HTl.out];exact AY HO.out zW3,RowsP.imp (fun _ _ h=>OwnI.mono h zW3) HRn.out⟩
      exact⟨fB hw3 hb,_,rfl,hfin⟩
  ·have hE':(R !=0)=true:=by simpa using hE
   clear HSc' HGr2 HLi
   go_wp2
   go_ret2
   exact⟨hw2, .inl ⟨hE,rfl⟩⟩
 ·have hA':(A !=0)=true:=by simpa using hA
  have hf:=He1.out hA
  subst hf
  clear HSc HGr' HCW HLi He1 He2
  go_wp2
  go_ret2
  exact⟨hw1, .inl ⟨hA,rfl⟩⟩
end
section
open Go.RowKit Go.Shelf Go.Lib
attribute [local go_sem] Ext.cell Ext.frozen
def SGr (l:List (List (List Q4))) (sb:Nat) (G:List Nat) (W:World) (e:Ending) (w':World):Prop:=∃g mb pv,e= .returned (.slice (some ⟨g,0,none⟩) G.length G.length)∧CK W w'∧GphAt w' g G∧
 w'.heap[sb]? =some (.cells #[pv, .map (some mb)] 171 (0,0))∧PtsV w' pv (psB l)
theorem Ya {l:List (List (List Q4))} {x y z:Int} (h0:eB l=0) (h1:mK (x,y,z)=0) (sb mb:Nat) (pv:Value) (X W:World) (hmb:X.heap.size≤mb) (hXW:Below X.heap.size X W) (k1:W.heap[sb]? =some (.cells #[pv, .map (some mb)] 171 (0,0))) (k2:OwM W mb 0 (.map [])) (hne:mb≠sb) (k3:PtsV W pv (psB l)):
  Calls Tryz.prog 49 #[.pointer (some ⟨sb,0,none⟩),V3 x y z] W (fun e w'=>SGr l sb (eM (psB l) (x,y,z)) W e w'∧Below X.heap.size X w'):=by
 have h:=XW h0 (Yu h1) sb mb 0 (.map []) pv W (by omega) k1 (Yv k2) k3
 refine h.mono ?_
 rintro e w' ⟨g,m',D',he,hb,hs,hk,hg, -⟩
 have hbm:ButM mb W w':=⟨hb,hs,hk⟩
 exact⟨⟨g,mb,pv,he,hbm.ck k2,hg,(hk _ (ah k1) (fun e=>hne e.symm)).trans k1,(hbm.ck k2).pts k3⟩,hXW.trans (hb.mono hmb)⟩
def crE (l:List (List (List Q4))) (n:Int) (w:Q3):Int:=if eB l=0 then(if 0≤n∧n<l.length then mK w else 6)else eB l
def crL (l:List (List (List Q4))) (n:Nat) (w:Q3):List Nat:=av (car (eM (psB l) w) (2 ^ l.length-1) n)
def CarP (l:List (List (List Q4))) (n:Int) (w:Q3) (W:World) (e:Ending) (w':World):Prop:=Below W.heap.size W w'∧
 ((crE l n w≠0∧e= .returned (.tuple #[.slice none 0 0, .int .i64 (crE l n w)]))∨(crE l n w=0∧∃v,e= .returned (.tuple #[v, .int .i64 0])∧OwnI W.heap.size w' v (crL l n.toNat w)))
end
end Go.Proofs.YtnpmkepfpekhfaaGreatDoor
