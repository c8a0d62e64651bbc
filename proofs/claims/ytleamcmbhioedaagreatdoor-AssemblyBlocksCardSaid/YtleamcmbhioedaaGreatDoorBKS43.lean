/- texts: BWB BWL BWM. -/
import Derived.Test.YtleamcmbhioedaaGreatDoorBKS42
import Derived.Test.YtleamcmbhioedaaGreatDoorBKS41
namespace Go.Proofs.YtleamcmbhioedaaGreatDoor
set_option maxHeartbeats 8000000
set_option linter.unusedSimpArgs false
set_option linter.unusedVariables false
section
open Go.RowKit Go.Shelf
set_option maxRecDepth 100000
attribute [local go_sem] Ext.cell Ext.frozen
def SwQ (L:List Q4) (W:World) (e:Ending) (w':World):Prop:=∃v,e= .returned v∧Below W.heap.size W w'∧w'.ownsRow W.heap.size 127 4 v L.length (L.flatMap aH)
def Tk (x y z:Int):Prop:=(-1≤x∧x≤1)∧(-1≤y∧y≤1)∧(-1≤z∧z≤1)
def SI (c:List Q4):Prop:=bK c=0∧c.length≤8
theorem Tl (ps:List Q4) (w:Q3) (x:Q4):(ps.flatMap (Rl w x)).length≤if 0<bj (nrm x) w then(bc ps w).length else 0:=by
 induction ps with
 |nil=>simp
 |cons y l ih=>
  rw[List.flatMap_cons,List.length_append]
  unfold bc at ih ⊢
  rw[List.filter_cons]
  unfold Rl at ih ⊢
  by_cases h1:0<bj (nrm x) w
  ·rw[if_pos h1]at ih ⊢
   by_cases h2:bj (nrm y) w<0
   ·rw[if_pos (decide_eq_true h2),List.length_cons]
    split
    ·simp only[List.length_singleton];omega
    ·simp only[List.length_nil];omega
   ·rw[if_neg (show ¬(decide (bj (nrm y) w<0)=true) by simpa using h2),if_neg (show ¬(0<bj (nrm x) w∧bj (nrm y) w<0∧nrm (kv x y w)≠(0,0,0))from fun h=>h2 h.2.1)]
    simp only[List.length_nil];omega
  ·rw[if_neg h1]at ih ⊢
   rw[if_neg (fun h=>h1 h.1)]
   simp only[List.length_nil];omega
theorem Tm (ps l:List Q4) (w:Q3):(l.flatMap fun x=>ps.flatMap (Rl w x)).length≤(cr l w).length*(bc ps w).length:=by
 induction l with
 |nil=>simp
 |cons x l ih=>
  rw[List.flatMap_cons,List.length_append]
  have h1:=Tl ps w x
  unfold cr at ih ⊢
  rw[List.filter_cons]
  by_cases h:0<bj (nrm x) w
  ·rw[if_pos h]at h1
   rw[if_pos (decide_eq_true h),List.length_cons,Nat.add_mul,Nat.one_mul]
   omega
  ·rw[if_neg h]at h1
   rw[if_neg (by simpa using h)]
   omega
theorem Tr (ps:List Q4) (w:Q3):(cr ps w).length+(bc ps w).length≤ps.length:=by
 induction ps with
 |nil=>simp[cr,bc]
 |cons x l ih=>
  unfold cr bc at ih ⊢
  rw[List.filter_cons,List.filter_cons,List.length_cons]
  by_cases h:0<bj (nrm x) w
  ·rw[if_pos (decide_eq_true h),if_neg (by rw[decide_eq_true_eq];omega),List.length_cons];omega
  ·rw[if_neg (by simpa using h)]
   split
   ·rw[List.length_cons];omega
   ·omega
theorem SO (ps:List Q4) (w:Q3) (h:ps.length≤8):(oS ps w).length≤24:=by
 unfold oS oT
 rw[List.take_length,List.length_append]
 have h1:=Tm ps ps w
 have h2:=Tr ps w
 have h3:(IH ps w).length≤ps.length:=List.length_filter_le _ _
 generalize(cr ps w).length=f at*
 generalize(bc ps w).length=b at*
 have h4:f*b≤16:=by
  have hf:f≤8:=by omega
  have hb:b≤8-f:=by omega
  have:f*b≤f*(8-f):=Nat.mul_le_mul_left f hb
  have h5:∀f,f≤8→f*(8-f)≤16:=by decide
  have:=h5 f hf
  omega
 omega
theorem Sk {c:List Q4} (h:∀p∈c,cI p):(∀p∈ch c,bI p)∧(ch c).length≤c.length:=by
 refine⟨fun q hq=> ?_, ?_⟩
 ·obtain⟨p,hp,rfl⟩:=(SH c h q).1 hq
  exact xJ p (h p (List.mem_filter.1 hp).1).1
 ·rw[xF c h]
  unfold iS Sp
  have h1:=eR (iP (iZ (aS c) c))
  have h2:(iP (iZ (aS c) c)).length=(iZ (aS c) c).length:=by unfold iP;simp
  have h3:=sk (aS c) c c.length
  rw[List.take_length]at h3
  omega
theorem SQ {ps:List Q4} {x y z:Int} (h:∀p∈ps,bI p) (hw:Tk x y z):∀q∈oS ps (x,y,z),okW q:=by
 intro q hq
 unfold oS at hq
 rcases List.mem_append.1 hq with hq|hq
 ·exact DW (h q (List.mem_filter.1 hq).1)
 ·obtain⟨a,ha,b,hb, -, -, -,rfl⟩:=mem_swpRi.1 hq
  exact Je _ (Jf a b (x,y,z) (h a ha) (h b hb) hw)
theorem look_ok {c d:List Q4} {x y z:Int} (hc:SI c) (hd:SI d) (hw:Tk x y z):(∀p∈oS (ch c) (x,y,z)++ch d,okW p)∧(oS (ch c) (x,y,z)++ch d).length≤32:=by
 have oc:=Sk (qV hc.1)
 have od:=Sk (qV hd.1)
 refine⟨fun p hp=> ?_, ?_⟩
 ·rcases List.mem_append.1 hp with hp|hp
  ·exact SQ oc.1 hw p hp
  ·exact DW (od.1 p hp)
 ·have h1:=SO (ch c) (x,y,z) (Nat.le_trans oc.2 hc.2)
  have:=hd.2
  rw[List.length_append]
  omega
theorem ST {c:List Q4} {w:Q3} (h:bK c=0) (hw:w≠(0,0,0)):0<(oS (ch c) w).length:=by
 obtain⟨p,hp,h0⟩:=(Rv h).2.2.1 (Dy w) (fun h=>hw (by rw[←Dz w,h];rfl))
 have h1:bj (nrm p) w≤0:=by unfold bj Dy at h0;unfold bj;grind
 unfold oS
 rw[List.length_append]
 have:0<(IH (ch c) w).length:=List.length_pos_of_mem (List.mem_filter.2 ⟨hp,decide_eq_true h1⟩)
 omega
theorem SU {ps:List Q4} (h:∀p∈ps,okW p):∀c∈dQ ps,okX c:=fun c hc=>by
 have hr:=((lf ps).2 c).1 hc
 obtain⟨p,hp,q,hq,r,hr',h0,e⟩:=mx (Nat.le_refl _) hr
 have:=De p q r (h p hp) (h q hq) (h r hr') (by simpa [okB]using h0)
 unfold lD at this
 rw[if_neg h0]at this
 rw[e]
 exact this
theorem Tn {p q:List (List Q4)} {w:Q3} {i k:Nat} (hi:i<p.length) (hk:k<q.length) (h:rbk p[i] q[k] w=true):SG p q w=true:=by
 unfold SG
 rw[List.any_eq_true]
 exact⟨p[i],List.getElem_mem hi,by rw[List.any_eq_true];exact⟨q[k],List.getElem_mem hk,h⟩⟩
theorem Ts {p q:List (List Q4)} {w:Q3} (h:∀i k (hi:i<p.length) (hk:k<q.length),rbk p[i] q[k] w=false):SG p q w=false:=by
 unfold SG
 rw[List.any_eq_false]
 intro c hc
 obtain⟨i,hi,rfl⟩:=List.getElem_of_mem hc
 rw[Bool.not_eq_true,List.any_eq_false]
 intro d hd
 obtain⟨k,hk,rfl⟩:=List.getElem_of_mem hd
 rw[h i k hi hk]
 simp
def To (L:List Q4):Value→World→Prop:=fun v w=>∃x,v= .agg #[x]∧Q4s w x L
theorem Rj (L:List Q4):dR (To L):=fun _ _ _ hb ⟨x,h1,h2⟩=>⟨x,h1,Q4s.below h2 hb⟩
theorem SD (HSw:∀(ps:List Q4) (pv:Value) (x y z:Int) (W:World),(∀p∈ps,bI p)→ps.length≤16→Tk x y z→Q4s W pv ps→Calls Tryz.prog 33 #[.agg #[pv],V3 x y z] W (SwQ (oS ps (x,y,z)) W))
  (p q:List (List Q4)) (sv tv:Value) (x y z:Int) (W:World) (hp:∀c∈p,SI c) (hq:∀c∈q,SI c) (hpl:p.length≤100) (hql:q.length≤100) (hw:Tk x y z) (hw0:((x,y,z):Q3)≠(0,0,0)) (h1:SolV W sv p) (h2:SolV W tv q):
  Calls Tryz.prog 16 #[.agg #[sv], .agg #[tv],V3 x y z] W (Ret W (.bool (SG p q (x,y,z)))):=by
 obtain⟨i0,hi0,hz0,hz1,hz2⟩:=info_parts cY
 have Hi0:=Lib.hid (And.intro hi0 (And.intro hz0 (And.intro hz1 hz2)))
 clear hi0 hz0 hz1 hz2
 obtain⟨sa,sn,sc,rfl,hsn, -,hsx⟩:=h1
 obtain⟨ta,tn,tc,rfl,htn, -,htx⟩:=h2
 obtain⟨V,HV⟩:∃V,Hid (((W.alloc (.cells #[.slice sa sn sc] 31)).alloc (.cells #[.slice ta tn tc] 31)).alloc (.cells #[.int .i64 x, .int .i64 y, .int .i64 z] 33)=V):=⟨_,Lib.hid rfl⟩
 have hV:Below W.heap.size W V:=by rw[←HV.out];exact bel
 have HA:Hid (V.heap[W.heap.size]? =some (.cells #[.slice sa sn sc] 31 (0,0))):=Lib.hid (by rw[←HV.out];exact(aB (by simp<;>omega)).trans ((aB (by simp)).trans (ai rfl)))
 have HB:Hid (V.heap[W.heap.size+1]? =some (.cells #[.slice ta tn tc] 31 (0,0))):=Lib.hid (by rw[←HV.out];exact(aB (by simp)).trans (ai (by simp)))
 have HW:Hid (V.heap[W.heap.size+2]? =some (.cells #[.int .i64 x, .int .i64 y, .int .i64 z] 33 (0,0))):=Lib.hid (by rw[←HV.out];exact ai (by simp))
 have HX:=Lib.hid hsx
 have HY:=Lib.hid htx
 have Hn:=Lib.hid hsn
 have Hm:=Lib.hid htn
 have hxl:sn≤100:=by omega
 have hyl:tn≤100:=by omega
 have HCa:=fun i (h:i<p.length)=>Lib.hid (hp _ (List.getElem_mem h))
 have HCb:=fun i (h:i<q.length)=>Lib.hid (hq _ (List.getElem_mem h))
 have Hhit:=fun i k (hi:i<p.length) (hk:k<q.length)=>Lib.hid (@Tn p q (x,y,z) i k hi hk)
 have Hno:=Lib.hid (@Ts p q (x,y,z))
 have HWb:=Lib.hid hw
 have HSw':=Lib.hid HSw
 clear hsx htx hsn htn hp hq hpl hql hw HSw
 generalize SG p q (x,y,z)=res at*
 go_enter Tryz.func16,Tryz.ntmps16
 go_wp2
 try rw[HV.out]
 go_loopw [7] (fun i wr=>∃k:Nat,k≤sn∧i= .int .i64 k∧Below V.heap.size V wr∧Hid (∀i j (hi:i<p.length) (hj:j<q.length),i<k→rbk p[i] q[j] (x,y,z)=false)) (fun i _=>sn-(intOf i).toNat)
 case atStart=>exact⟨0,by omega,rfl,Below.refl _ _,Lib.hid (fun i j _ _ h=>by omega)⟩
 case round=>
  obtain⟨k,hk,rfl,hb,Hd⟩:=hrel
  have hAr:=(hb.block _ (ah HA.out)).trans HA.out
  have a0:wr.cell? ⟨W.heap.size,0,none⟩=some (.slice sa sn sc):=(ag hAr 0).trans rfl
  have az:=ah hAr
  obtain⟨w0,w1,w2,wf,wz⟩:=NO ((hb.block _ (ah HW.out)).trans HW.out)
  clear hAr
  by_cases hlt:k<sn
  ·have g1:(k:Int)<(sn:Int):=by omega
   have g2:(0:Int)≤(k:Int):=by omega
   have hil:k<p.length:=by have:=Hn.out;omega
   obtain⟨b0,off,rfl,hi4⟩:=HX.out (by omega)
   obtain⟨pv,e0,hq⟩:=hi4 k hil
   have e0:=ab (fB hV hb) e0
   have ze:=World.block_lt_of_cell? wr _ e0
   simp only at ze
   have hsl:=(HCa k hil).out
   have okc:=qV hsl.1
   have okr:=Sk okc
   have HNr:=fun W' (hW':Below wr.heap.size wr W')=>Lib.hid (pW p[k] pv W' okc (Nat.le_trans hsl.2 (by decide)) ((hq.below (fB hV hb)).below hW'))
   have HSk:=fun v W' (hv:Q4s W' v (ch p[k]))=>Lib.hid (HSw'.out (ch p[k]) v x y z W' okr.1 (Nat.le_trans okr.2 (Nat.le_trans hsl.2 (by decide))) HWb.out hv)
   obtain⟨pa,pn,pc,rfl, -⟩:=hq
   have HSl:=Lib.hid hsl
   clear hi4 hsl okc okr
   unfold SwQ at HSk
   generalize hSS:oS (ch p[k]) (x,y,z)=SS at HSk
   have HSS:=Lib.hid hSS
   clear hSS
   go_wp2
   apply aj [] [0,1,2,3,4,5,6,7,8,9] 10 [] [sv _,sv _,sv _,sv _,sv _,sv _,⟨OA wr.heap.size (ch p[k]),by first|exact Ox _|exact Pt _ _|exact Rj _⟩,⟨To (ch p[k]),by first|exact Ox _|exact Pt _ _|exact Rj _⟩,sv _,⟨OA wr.heap.size SS,by first|exact Ox _|exact Pt _ _|exact Rj _⟩] (by kernel_rfl) (by kernel_rfl)
   iterate 6 ((try go_frame);refine wkQ ?_)
   try go_frame
   refine wkU (fun u hR K hK=> ?_) (fun o6=> ?_)
   ·clear hR
    go_simp
    refine((HNr _ u.below).out).mono ?_
    rintro e w9 ⟨v9,rfl,hb9,ho9⟩
    exact hK _ _ hb9 (AY ho9 u.below.size)
   try go_frame
   refine wkU (fun u hR K hK=> ?_) (fun o7=> ?_)
   ·have h6:(OA wr.heap.size (ch p[k])) o6 u.val:=hr hR 6
    clear hR
    have H9:=Lib.hid h6
    obtain⟨a9,c9,rfl⟩:=aT h6
    clear h6
    go_simp
    exact hK _ _ (Below.refl _ _) ⟨_,rfl,dV H9.out⟩
   ((try go_frame);refine wkQ ?_)
   try go_frame
   refine wkU (fun u hR K hK=> ?_) (fun o9=> ?_)
   ·have h7:To (ch p[k]) o7 u.val:=hr hR 7
    clear hR
    obtain⟨x9,rfl,hx9⟩:=h7
    go_simp
    refine((HSk _ _ hx9).out).mono ?_
    rintro e w9 ⟨v9,rfl,hb9,ho9⟩
    exact hK _ _ hb9 (AY ho9 u.below.size)
   try go_frame
   refine aI (fun u hR=> ?_)
   have ho:OA wr.heap.size SS o9 u.val:=hR 9 (by simp)
   have HO:=Lib.hid ho
   have hbu:=u.below
   clear hR HNr HSk a0 az w0 w1 w2 wf wz e0 ze
   have hSS0:0<SS.length:=by rw[←HSS.out];exact ST HSl.out.1 hw0
   rcases id ho.2 with⟨_,hz⟩|⟨gs,oc,_,heo,_⟩
   ·omega
   subst heo
   clear ho
   generalize u.val=wq at*
   clear u
   simp only[oas]
   go_wp2
   refine NoPanic.normal ?_
   have hbV:=fB hb hbu
   go_wp2
   go_loopw [9] (fun jv wr=>∃j:Nat,j≤tn∧jv= .int .i64 j∧Below wq.heap.size wq wr∧Hid (∀m (hm:m<q.length),m<j→rbk p[k] q[m] (x,y,z)=false)) (fun jv _=>tn-(intOf jv).toNat)
   case atStart=>exact⟨0,by omega,rfl,Below.refl _ _,Lib.hid (fun m _ h=>by omega)⟩
   case round=>
    have zq:=hbu.size
    obtain⟨wp0,hwp⟩:∃n0,n0=wr.heap.size:=⟨_,rfl⟩
    obtain⟨j,hj,rfl,hbj,Hdj⟩:=hrel
    have hbVj:=fB hbV hbj
    have hBr:=(hbVj.block _ (ah HB.out)).trans HB.out
    have b1:wr.cell? ⟨W.heap.size+1,0,none⟩=some (.slice ta tn tc):=(ag hBr 0).trans rfl
    have bz:=ah hBr
    clear hBr hwp wp0 zq
    by_cases hlj:j<tn
    ·have g3:(j:Int)<(tn:Int):=by omega
     have g4:(0:Int)≤(j:Int):=by omega
     have hjl:j<q.length:=by have:=Hm.out;omega
     obtain⟨b2,off2,rfl,hi5⟩:=HY.out (by omega)
     obtain⟨qv,f0,hr⟩:=hi5 j hjl
     have f0:=ab (fB hV hbVj) f0
     have zf:=World.block_lt_of_cell? wr _ f0
     simp only at zf
     have hsd:=(HCb j hjl).out
     have okd:=qV hsd.1
     have HNd:=fun W' (hW':Below wr.heap.size wr W')=>Lib.hid (pW q[j] qv W' okd (Nat.le_trans hsd.2 (by decide)) ((hr.below (fB hV hbVj)).below hW'))
     have HOj:=Lib.hid (au HO.out hbj)
     have hLk:=look_ok HSl.out hsd HWb.out
     rw[HSS.out]at hLk
     have hrl:0<(ch q[j]).length:=by
      obtain⟨o1,ho1, -⟩:=(Rv hsd.1).2.2.1 (1,0,0) (by simp)
      exact List.length_pos_of_mem ho1
     have HCl:Hid (rbk p[k] q[j] (x,y,z)=(SS++ch q[j]).all (gM (dQ (SS++ch q[j])))):=Lib.hid (by unfold rbk;rw[HSS.out])
     have HP:=fun v W' (h:Q4s W' v (SS++ch q[j]))=>Lib.hid (SB (SS++ch q[j]) v W' hLk.1 (Nat.le_trans hLk.2 (by decide)) h)
     have hpl:(dQ (SS++ch q[j])).length≤300000:=Qc (Nat.le_trans hLk.2 (by decide))
     have HI:=fun v cv W' (h:Q4s W' v (SS++ch q[j])) (h':Q4s W' cv (dQ (SS++ch q[j])))=>Lib.hid (SC (SS++ch q[j]) (dQ (SS++ch q[j])) v cv W' hLk.1 (SU hLk.1) (Nat.le_trans hLk.2 (by decide)) (by omega) h h')
     have hln:(SS++ch q[j]).length≤32:=hLk.2
     have Hh:=Lib.hid ((Hhit k j hil hjl).out)
     have Hst:Hid (rbk p[k] q[j] (x,y,z)=false→∀m (hm:m<q.length),m<j+1→rbk p[k] q[m] (x,y,z)=false):=Lib.hid (fun h m hm hmj=>by
      by_cases e:m=j
      ·subst e;exact h
      ·exact Hdj.out m hm (by omega))
     obtain⟨qa,qn,qc,rfl, -⟩:=hr
     rw[←HCl.out]at HI
     rw[List.length_append]at hln
     clear hi5 hsd okd HX HY Hhit Hno Hd Hdj HCa HCb HO HSl HSS HCl hLk HSw' HWb
     generalize rbk p[k] q[j] (x,y,z)=cl at*
     generalize hRD:ch q[j]=RD at*
     clear hRD
     generalize hcor:dQ (SS++RD)=cor at*
     clear hcor
     go_wp2
     apply aj [] [0,1,2,3,4,5,6,7,8,9] 10 [11] [⟨QE wr.heap.size,by first|exact Ox _|exact Pt _ _|exact Rj _⟩,sv _,⟨OA wr.heap.size SS,by first|exact Ox _|exact Pt _ _|exact Rj _⟩,sv _,sv _,sv _,sv _,sv _,sv _,⟨OA wr.heap.size RD,by first|exact Ox _|exact Pt _ _|exact Rj _⟩] (by kernel_rfl) (by kernel_rfl)
     try go_frame
     refine wkU (fun u hR K hK=> ?_) (fun o0=> ?_)
     ·clear hR
      have zz:=u.below.size
      go_simp
      exact hK _ _ bel ⟨_,rfl,zz,ai rfl⟩
     ((try go_frame);refine wkQ ?_)
     try go_frame
     refine wkU (fun u hR K hK=> ?_) (fun o2=> ?_)
     ·have h0:QE wr.heap.size o0 u.val:=hr hR 0
      clear hR
      obtain⟨gm,rfl,hgm,hgl⟩:=h0
      have hOu:=au HOj.out u.below
      obtain⟨v9,w9,hrun,hown9,hb9⟩:=dM (P:=Tryz.prog) (w:=u.val) 66 66 127 i0 (v4 (0,0,0,0)) 4 32 Oc Hi0.out.1 Hi0.out.2.1 Hi0.out.2.2.1 Hi0.out.2.2.2 rfl (by decide) ⟨gm,0,none⟩ 0 0 [] rfl (fun _ _ h=>by simp at h) ⟨gs,0,none⟩ SS.length oc (SS.flatMap aH) (by rw[bh]) (World.ownsRow.cells hOu rfl) (by omega) (by unfold maxLen;omega) (by omega)
      exact cZ _ _ 66 rfl hrun (hK _ _ hb9 (show OA wr.heap.size SS v9 w9 from by have h9:=AY hown9 u.below.size;simp only[Nat.zero_add,List.nil_append]at h9;exact h9))
     iterate 6 ((try go_frame);refine wkQ ?_)
     try go_frame
     refine wkU (fun u hR K hK=> ?_) (fun o9=> ?_)
     ·clear hR
      go_simp
      refine((HNd _ u.below).out).mono ?_
      rintro e w9 ⟨v9,rfl,hb9,ho9⟩
      exact hK _ _ hb9 (AY ho9 u.below.size)
     try go_frame
     refine aI (fun u hR=> ?_)
     have h2:OA wr.heap.size SS o2 u.val:=hR 2 (by simp)
     have h9:OA wr.heap.size RD o9 u.val:=hR 9 (by simp)
     rcases id h9.2 with⟨_,hz⟩|⟨gd,cd,_,hed,_⟩
     ·omega
     subst hed
     have hbu2:=u.below
     have hs9:=World.ownsRow.cells h9 rfl
     clear hR b1 bz f0 zf HNd h9
     generalize u.val=w5 at*
     clear u
     simp only[oas]
     refine bn h2 hbu2 hbu2.size rfl hs9 _ _ rfl rfl rfl rfl (by omega) fun v6 w6 hown6 hb6=> ?_
     have HQ6:=Lib.hid (dV hown6)
     obtain⟨va,vc,rfl⟩:=aT hown6
     generalize(SS++RD).length=nn at*
     clear h2 hs9 hown6 hbu2
     have HP6:=Lib.hid ((HP _ w6 HQ6.out).out)
     clear HP HOj
     iterate 1 (refine wpList_step (fun K hK=> ?_);go_simp;refine hK _ _ ?_;clear hK K)
     refine NoPanic.normal ?_
     go_wp2_with fail
     refine HP6.out.mono ?_
     rintro e w7 ⟨cv,rfl,hb7,hc7⟩
     have HC7:=Lib.hid (dV hc7)
     have HI7:=Lib.hid ((HI _ cv w7 (HQ6.out.below hb7) HC7.out).out)
     obtain⟨ca,cc,rfl⟩:=aT hc7
     have hb67:=fB hb6 hb7
     clear HI hc7 HP6 HQ6 HC7
     generalize cor.length=cn at*
     go_wp2_with fail
     refine HI7.out.mono ?_
     rintro e w8 ⟨rfl,hb8⟩
     have hb68:=fB hb67 hb8
     cases cl with
     |true=>
      obtain rfl:=Hh.out rfl
      have hw8:=fB (fB hV hbVj) hb68
      clear HI7 Hh Hst
      go_wp2
      go_ret
      exact⟨ay (by simp),hw8⟩
     |false=>
      have HF:=Lib.hid (Hst.out rfl)
      clear HI7 Hh Hst
      go_wp2
      go_roundw
      case rel=>exact⟨j+1,by omega,by go_num,fB hbj hb68,HF⟩
      case measure=>first|(simp[intOf];done)|(simp[intOf];omega)
    ·obtain rfl:j=tn:=by omega
     have Hd2:Hid (∀i j (hi:i<p.length) (hj:j<q.length),i<k+1→rbk p[i] q[j] (x,y,z)=false):=Lib.hid (fun i m hi hm h=>by
      by_cases e:i=k
      ·subst e;exact Hdj.out m hm (by have:=Hm.out;omega)
      ·exact Hd.out i m hi hm (by omega))
     clear HX HY Hhit Hno HCa HCb HO HSl HSS HSw'
     go_wp2
     go_roundw
     case rel=>exact⟨k+1,by omega,by go_num,hbVj,Hd2⟩
     case measure=>first|(simp[intOf];done)|(simp[intOf];omega)
  ·obtain rfl:k=sn:=by omega
   have hT:=Hno.out (fun i j hi hj=>Hd.out i j hi hj (by have:=Hn.out;omega))
   subst hT
   have hw4:Below W.heap.size W wr:=fB hV hb
   clear HX HY Hhit Hno Hd HCa HCb HSw' HWb
   go_wp2
   go_ret
   exact⟨ay (by simp),hw4⟩
def Tp (p:List (List Q4)):Value→World→Prop:=fun v w=>∃x,v= .agg #[x]∧SolV w x p
theorem SW (p:List (List Q4)):dR (Tp p):=fun _ _ _ hb ⟨x,h1,h2⟩=>⟨x,h1,SolV.below h2 hb⟩
theorem Sl {p:List (List Q4)} (hf:Oa 3 p=true) (h:eY p=0):∀c∈p,SI c:=fun c hc=>by
 have h1:=IL h c hc
 refine⟨h1, ?_⟩
 have h2:=(jx h1).1
 unfold Oa at hf
 rw[Bool.and_eq_true,List.all_eq_true]at hf
 have h3:=hf.2 c hc
 unfold NX at h3
 simp only[Bool.or_eq_true,Bool.and_eq_true,decide_eq_true_eq]at h3
 omega
theorem SV {x y z:Int} (h:mK (x,y,z)=0):Tk x y z∧((x,y,z):Q3)≠(0,0,0):=by
 unfold mK at h
 simp only at h
 split at h
 ·rename_i hb
  split at h
  ·cases h
  ·rename_i hz
   exact⟨hb,fun e=>hz (by simp only[Prod.mk.injEq]at e;exact e)⟩
 ·cases h
theorem So (p q:List (List Q4)) (sv tv:Value) (W:World) (hp:∀c∈p,c.length≤1000000) (hq:∀c∈q,c.length≤1000000) (h1:SolV W sv p) (h2:SolV W tv q):
  Calls Tryz.prog 14 #[.agg #[sv], .agg #[tv]] W (Ret W (.int .i64 (kw p q))):=by
 have H1:=fun W' (h:Below W.heap.size W W')=>Lib.hid (PO p sv W' hp (SolV.below h1 h))
 have H2:=fun W' (h:Below W.heap.size W W')=>Lib.hid (PO q tv W' hq (SolV.below h2 h))
 have He1:Hid (eY p≠0→kw p q=eY p):=Lib.hid (fun h=>by unfold kw;rw[if_neg h])
 have He2:Hid (eY p=0→kw p q=eY q):=Lib.hid (fun h=>by unfold kw;rw[if_pos h])
 obtain⟨sa,sn,sc,rfl, -⟩:=h1
 obtain⟨ta,tn,tc,rfl, -⟩:=h2
 clear hp hq
 generalize kw p q=ce at*
 generalize eY p=e1 at*
 generalize eY q=e2 at*
 obtain⟨V,HV⟩:∃V,Hid ((W.alloc (.cells #[.slice sa sn sc] 31)).alloc (.cells #[.slice ta tn tc] 31)=V):=⟨_,Lib.hid rfl⟩
 have hV:Below W.heap.size W V:=by rw[←HV.out];exact bel
 have HB:Hid (V.heap[W.heap.size+1]? =some (.cells #[.slice ta tn tc] 31 (0,0))):=Lib.hid (by rw[←HV.out];exact ai (by simp))
 go_enter Tryz.func14,Tryz.ntmps14
 go_wp2_with fail
 try rw[HV.out]
 refine((H1 _ hV).out).mono ?_
 rintro e w1 ⟨rfl,hb1⟩
 have hw1:=fB hV hb1
 have hB1:=(hb1.block _ (ah HB.out)).trans HB.out
 have b0:w1.cell? ⟨W.heap.size+1,0,none⟩=some (.slice ta tn tc):=(ag hB1 0).trans rfl
 have bz:=ah hB1
 clear H1 hB1
 by_cases h0:e1=0
 ·subst h0
  obtain rfl:=He2.out (by first|rfl|trivial)
  have H2':=Lib.hid ((H2 w1 hw1).out)
  clear He1 He2 H2
  go_wp2_with fail
  refine(H2'.out).mono ?_
  rintro e w2 ⟨rfl,hb2⟩
  clear H2'
  go_wp2
  go_ret
  exact⟨by first|rfl|trivial,fB hw1 hb2⟩
 ·have h0':(e1 !=0)=true:=by simpa using h0
  obtain rfl:=He1.out h0
  clear He1 He2 H2
  go_wp2
  go_ret
  exact⟨by first|rfl|trivial,hw1⟩
theorem Rs (p q:List (List Q4)) (sv tv:Value) (x y z:Int) (W:World) (hp:p.length≤maxLen) (hq:q.length≤maxLen) (h1:SolV W sv p) (h2:SolV W tv q) (ht:Lib.TabIs Tryz.prog W "internal/strconv.uint64pow10" .u64 Lib.pow10Tab∧TabAt 1 Lib.deBruijn64tab W):
  Calls Tryz.prog 4 #[.agg #[sv], .agg #[tv], .agg #[.int .i64 x, .int .i64 y, .int .i64 z]] W (Ret W (.bool true)):=by
 obtain⟨V,HV⟩:∃V,Hid (((W.alloc (.cells #[sv] 31)).alloc (.cells #[tv] 31)).alloc (.cells #[.int .i64 x, .int .i64 y, .int .i64 z] 33)=V):=⟨_,Lib.hid rfl⟩
 have hV:Below W.heap.size W V:=by rw[←HV.out];exact bel
 have BP:Hid (V.heap[W.heap.size]? =some (.cells #[sv] 31 (0,0))):=Lib.hid (by rw[←HV.out];exact(aB (by simp<;>omega)).trans ((aB (by simp)).trans (ai rfl)))
 have BQ:Hid (V.heap[W.heap.size+1]? =some (.cells #[tv] 31 (0,0))):=Lib.hid (by rw[←HV.out];exact(aB (by simp)).trans (ai (by simp)))
 have BY:Hid (V.heap[W.heap.size+2]? =some (.cells #[.int .i64 x, .int .i64 y, .int .i64 z] 33 (0,0))):=Lib.hid (by rw[←HV.out];exact ai (by simp))
 have HA:=Lib.hid (Gv V (kl ht.1 hV) (ma ht.2 hV))
 have HF1:=fun W' (hb:Below W.heap.size W W')=>Lib.hid (show Calls Tryz.prog 11 #[.agg #[sv], .int .i64 3] W' (Ret W' (.bool (Oa 3 p)))from PQ 3 p sv W' (by decide) hp (SolV.below h1 hb))
 have HF2:=fun W' (hb:Below W.heap.size W W')=>Lib.hid (show Calls Tryz.prog 11 #[.agg #[tv], .int .i64 3] W' (Ret W' (.bool (Oa 3 q)))from PQ 3 q tv W' (by decide) hq (SolV.below h2 hb))
 have HC1:=fun(hf:Oa 3 p=true) W' (hb:Below W.heap.size W W')=>Lib.hid (PA p sv W' (Nat.le_trans (QI (by decide) hf).1 (by decide)) (fun c hc=>Nat.le_trans ((QI (by decide) hf).2 c hc) (by decide)) (SolV.below h1 hb))
 have HC2:=fun(hf:Oa 3 q=true) W' (hb:Below W.heap.size W W')=>Lib.hid (PA q tv W' (Nat.le_trans (QI (by decide) hf).1 (by decide)) (fun c hc=>Nat.le_trans ((QI (by decide) hf).2 c hc) (by decide)) (SolV.below h2 hb))
 have HBk:=fun(hf:Oa 3 p=true) (hf2:Oa 3 q=true) a b W' (k1:SolV W' a p) (k2:SolV W' b q)=>Lib.hid (CO p q a b x y z W' (fun c hc=>Nat.le_trans ((QI (by decide) hf).2 c hc) (by decide)) (fun c hc=>Nat.le_trans ((QI (by decide) hf2).2 c hc) (by decide)) k1 k2)
 have HT:=fun(hf:Oa 3 p=true) (hf2:Oa 3 q=true) W' (hb:Below W.heap.size W W')=>Lib.hid (So p q sv tv W' (fun c hc=>Nat.le_trans ((QI (by decide) hf).2 c hc) (by decide)) (fun c hc=>Nat.le_trans ((QI (by decide) hf2).2 c hc) (by decide)) (SolV.below h1 hb) (SolV.below h2 hb))
 have HWe:=fun W'=>Lib.hid (El x y z W')
 have HR:=fun(hf:Oa 3 p=true) (hf2:Oa 3 q=true) (hz:kw p q=0) (hw:mK (x,y,z)=0) W' (hb:Below W.heap.size W W')=>Lib.hid (show Calls Tryz.prog 16 #[.agg #[sv], .agg #[tv],V3 x y z] W' (Ret W' (.bool (KZ p q (x,y,z))))from by
  have h:=SD (fun ps pv x y z W h1 h2 h3 h4=>Tf ps pv x y z W h1 h2 h3.1 h3.2.1 h3.2.2 h4) p q sv tv x y z W' (Sl hf (Gc hz).1) (Sl hf2 (Gc hz).2) (xb (Gc hz).1).1 (xb (Gc hz).2).1 (SV hw).1 (SV hw).2 (SolV.below h1 hb) (SolV.below h2 hb)
  rw[←Tj (IL (Gc hz).1) (IL (Gc hz).2) (SV hw).2]at h
  exact h)
 have Hb1:Hid (kw p q≠0→blE p q (x,y,z)=kw p q):=Lib.hid (fun h=>by
  unfold kw at h ⊢
  unfold blE
  by_cases h0:eY p=0
  ·rw[if_pos h0]at h ⊢;rw[if_pos h0,if_neg h]
  ·rw[if_neg h0,if_neg h0])
 have Hb2:Hid (kw p q=0→blE p q (x,y,z)=mK (x,y,z)):=Lib.hid (fun h=>by
  have:=Gc h
  unfold blE
  rw[if_pos this.1,if_pos this.2])
 have Hsv:Hid (∃a n c,sv= .slice a n c):=Lib.hid (by obtain⟨a,n,c,rfl,_⟩:=h1;exact⟨a,n,c,rfl⟩)
 have Htv:Hid (∃a n c,tv= .slice a n c):=Lib.hid (by obtain⟨a,n,c,rfl,_⟩:=h2;exact⟨a,n,c,rfl⟩)
 obtain⟨sa,sn,sc,rfl⟩:=Hsv.out
 obtain⟨ta,tn,tc,rfl⟩:=Htv.out
 clear h1 h2 hp hq ht Hsv Htv
 generalize Oa 3 p=f1 at*
 generalize Oa 3 q=f2 at*
 generalize blE p q (x,y,z)=be at*
 generalize KZ p q (x,y,z)=bk at*
 generalize kw p q=ct at*
 generalize mK (x,y,z)=we at*
 go_enter Tryz.func4,Tryz.ntmps4
 go_wp2_with fail
 try rw[HV.out]
 refine(HA.out).mono ?_
 rintro e w1 ⟨rfl,hb1⟩
 have hw1:=fB hV hb1
 have HP1:=Lib.hid ((hb1.block _ (ah BP.out)).trans BP.out)
 have HQ1:=Lib.hid ((hb1.block _ (ah BQ.out)).trans BQ.out)
 have HY1:=Lib.hid ((hb1.block _ (ah BY.out)).trans BY.out)
 have p0:w1.cell? ⟨W.heap.size,0,none⟩=some (.slice sa sn sc):=(ag HP1.out 0).trans rfl
 have pz:=ah HP1.out
 clear HA BP BQ BY hV HV
 go_wp2_with fail
 refine((HF1 _ hw1).out).mono ?_
 rintro e w2 ⟨rfl,hb2⟩
 have hw2:=fB hw1 hb2
 have HP2:=Lib.hid ((hb2.block _ (ah HP1.out)).trans HP1.out)
 have HQ2:=Lib.hid ((hb2.block _ (ah HQ1.out)).trans HQ1.out)
 have HY2:=Lib.hid ((hb2.block _ (ah HY1.out)).trans HY1.out)
 have q0:w2.cell? ⟨W.heap.size+1,0,none⟩=some (.slice ta tn tc):=(ag HQ2.out 0).trans rfl
 have qz:=ah HQ2.out
 clear HF1 HP1 HQ1 HY1 p0 pz
 cases f1 with
 |false=>
  clear HF2 HC1 HC2 HBk HT HWe HR Hb1 Hb2
  go_wp2
  go_ret
  exact⟨ay (by simp),hw2⟩
 |true=>
  have HF2':=Lib.hid ((HF2 w2 hw2).out)
  clear HF2
  go_wp2_with fail
  refine(HF2'.out).mono ?_
  rintro e w3 ⟨rfl,hb3⟩
  have hw3:=fB hw2 hb3
  have HP3:=Lib.hid ((hb3.block _ (ah HP2.out)).trans HP2.out)
  have HQ3:=Lib.hid ((hb3.block _ (ah HQ2.out)).trans HQ2.out)
  have HY3:=Lib.hid ((hb3.block _ (ah HY2.out)).trans HY2.out)
  clear HF2' HP2 HQ2 HY2 q0 qz
  cases f2 with
  |false=>
   have hw2:=hw3
   clear HC1 HC2 HBk HT HWe HR Hb1 Hb2
   go_wp2
   go_ret
   exact⟨ay (by simp),hw2⟩
  |true=>
   have HC1':=fun W' hb=>Lib.hid (HC1 (by first|rfl|trivial) W' hb).out
   have HC2':=fun W' hb=>Lib.hid (HC2 (by first|rfl|trivial) W' hb).out
   have HBk':=fun a b W' k1 k2=>Lib.hid (HBk (by first|rfl|trivial) (by first|rfl|trivial) a b W' k1 k2).out
   have HT':=fun W' hb=>Lib.hid (HT (by first|rfl|trivial) (by first|rfl|trivial) W' hb).out
   have HR':=fun hz hw W' hb=>Lib.hid (HR (by first|rfl|trivial) (by first|rfl|trivial) hz hw W' hb).out
   clear HC1 HC2 HBk HT HR
   have p0:w3.cell? ⟨W.heap.size,0,none⟩=some (.slice sa sn sc):=(ag HP3.out 0).trans rfl
   have pz:=ah HP3.out
   have q0:w3.cell? ⟨W.heap.size+1,0,none⟩=some (.slice ta tn tc):=(ag HQ3.out 0).trans rfl
   have qz:=ah HQ3.out
   obtain⟨y0,y1,y2,_,yz⟩:=NO HY3.out
   obtain⟨br,Hbr⟩:∃br,Hid ((decide (be=0)&&bk)=br):=⟨_,Lib.hid rfl⟩
   rw[Hbr.out]at HBk'
   go_wp2
   apply aj [9] [0,1,2,3,4,5,6,7,8,9] 10 [] [sv _,⟨Tp p,by first|exact SW _⟩,sv _,⟨Tp q,by first|exact SW _⟩,sv _,sv _,sv _,sv _,sv _,sv _] (by kernel_rfl) (by kernel_rfl)
   ((try go_frame);refine wkQ ?_)
   try go_frame
   refine wkU (fun u hR K hK=> ?_) (fun o1=> ?_)
   ·clear hR
    go_simp
    refine((HC1' _ (fB hw3 u.below)).out).mono ?_
    rintro e w9 ⟨v9,rfl,hb9,ho9⟩
    exact hK _ _ hb9 ⟨_,rfl,ho9.sol⟩
   ((try go_frame);refine wkQ ?_)
   try go_frame
   refine wkU (fun u hR K hK=> ?_) (fun o3=> ?_)
   ·clear hR
    go_simp
    refine((HC2' _ (fB hw3 u.below)).out).mono ?_
    rintro e w9 ⟨v9,rfl,hb9,ho9⟩
    exact hK _ _ hb9 ⟨_,rfl,ho9.sol⟩
   ((try go_frame);refine wkQ ?_)
   try go_frame
   refine MM rfl rfl (by simp) rfl rfl ?_
   apply ex3
   ·intro u hR K hK
    have h1:Tp p o1 u.val:=hr hR 1
    have h3:Tp q o3 u.val:=hr hR 3
    clear hR
    obtain⟨a9,rfl,k1⟩:=h1
    obtain⟨b9,rfl,k2⟩:=h3
    go_simp
    refine((HBk' _ _ _ k1 k2).out).mono ?_
    rintro e w9 ⟨rfl,hb9⟩
    exact hK _ hb9
   rfl
   iterate 3 ((try go_frame);refine wkQ ?_)
   try go_frame
   refine wkz rfl rfl rfl rfl ?_
   apply Exists.intro
   apply And.intro
   ·intro w9
    go_simp
    try rfl
   refine⟨rfl, ?_⟩
   try go_frame
   refine aI (fun u hR=> ?_)
   have hw4:=fB hw3 u.below
   have HP4:=Lib.hid ((u.below.block _ (ah HP3.out)).trans HP3.out)
   have HQ4:=Lib.hid ((u.below.block _ (ah HQ3.out)).trans HQ3.out)
   have HY4:=Lib.hid ((u.below.block _ (ah HY3.out)).trans HY3.out)
   clear hR p0 pz q0 qz y0 y1 y2 yz HP3 HQ3 HY3 HC1' HC2' HBk'
   generalize u.val=w4 at*
   clear u
   simp only[oas]
   go_wp2
   refine NoPanic.normal ?_
   have p0:w4.cell? ⟨W.heap.size,0,none⟩=some (.slice sa sn sc):=(ag HP4.out 0).trans rfl
   have pz:=ah HP4.out
   have q0:w4.cell? ⟨W.heap.size+1,0,none⟩=some (.slice ta tn tc):=(ag HQ4.out 0).trans rfl
   have qz:=ah HQ4.out
   have HT4:=Lib.hid (HT' w4 hw4).out
   clear HT'
   go_wp2_with fail
   refine(HT4.out).mono ?_
   rintro e w5 ⟨rfl,hb5⟩
   have hw5:=fB hw4 hb5
   have HP5:=Lib.hid ((hb5.block _ (ah HP4.out)).trans HP4.out)
   have HQ5:=Lib.hid ((hb5.block _ (ah HQ4.out)).trans HQ4.out)
   have HY5:=Lib.hid ((hb5.block _ (ah HY4.out)).trans HY4.out)
   clear HT4 p0 pz q0 qz HP4 HQ4 HY4
   by_cases hct:ct=0
   ·subst hct
    have hbe:=Hb2.out (by first|rfl|trivial)
    obtain⟨y0,y1,y2,_,yz⟩:=NO HY5.out
    have HW5:=Lib.hid (HWe w5).out
    clear HWe Hb1 Hb2
    go_wp2_with fail
    refine(HW5.out).mono ?_
    rintro e w6 ⟨rfl,hb6⟩
    have hw6:=fB hw5 hb6
    have HP6:=Lib.hid ((hb6.block _ (ah HP5.out)).trans HP5.out)
    have HQ6:=Lib.hid ((hb6.block _ (ah HQ5.out)).trans HQ5.out)
    have HY6:=Lib.hid ((hb6.block _ (ah HY5.out)).trans HY5.out)
    clear HW5 y0 y1 y2 yz HP5 HQ5 HY5
    by_cases hwe:we=0
    ·subst hwe
     subst hbe
     have HR6:=Lib.hid (HR' (by first|rfl|trivial) (by first|rfl|trivial) w6 hw6).out
     have hbr:br=bk:=by rw[←Hbr.out];simp
     subst hbr
     have p0:w6.cell? ⟨W.heap.size,0,none⟩=some (.slice sa sn sc):=(ag HP6.out 0).trans rfl
     have pz:=ah HP6.out
     have q0:w6.cell? ⟨W.heap.size+1,0,none⟩=some (.slice ta tn tc):=(ag HQ6.out 0).trans rfl
     have qz:=ah HQ6.out
     obtain⟨y0,y1,y2,_,yz⟩:=NO HY6.out
     clear HR' Hbr
     go_wp2_with fail
     refine(HR6.out).mono ?_
     rintro e w7 ⟨rfl,hb7⟩
     have hw7:=fB hw6 hb7
     clear HR6
     go_wp2
     go_ret
     exact⟨ay (by simp),hw7⟩
    ·have hwe':(we !=0)=true:=by simpa using hwe
     subst hbe
     have hbr:br=false:=by rw[←Hbr.out];simp[hwe]
     subst hbr
     clear HR' Hbr
     go_wp2
     go_ret
     exact⟨ay (by simp),hw6⟩
   ·have hct':(ct !=0)=true:=by simpa using hct
    have hct2:(ct==0)=false:=by simpa using hct
    have hbe:=Hb1.out hct
    subst hbe
    have hbr:br=false:=by rw[←Hbr.out];simp[hct]
    subst hbr
    clear HWe HR' Hb1 Hb2 Hbr
    go_wp2
    go_ret
    exact⟨ay (by simp),hw5⟩
end
end Go.Proofs.YtleamcmbhioedaaGreatDoor
