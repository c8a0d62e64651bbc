/- texts: M0. -/
import Derived.Test.YtffbilcjhlncfaaGreatDoorDQS17
namespace Go.Proofs.YtffbilcjhlncfaaGreatDoor
set_option maxHeartbeats 8000000
set_option linter.all false
section
open Go.RowKit Go.Shelf
attribute [local go_sem] Ext.cell Ext.frozen
theorem Dp:Tryz.prog.underlying 162=some (.slice 190):=by kernel_rfl
set_option maxRecDepth 100000 in
theorem JE (n:Nat) (w:World) (hn:n≤1000000):Calls Tryz.prog 204 #[.slice none 0 0, .int .i64 n] w fun e w'=>∃r,e= .returned r∧Below w.heap.size w w'∧w'.ownsRow w.heap.size 190 4 r 0 []:=by
 obtain⟨i0,hi0,hz0,hz1,hz2⟩:=info_parts cY
 by_cases h0:n=0
 ·subst h0
  go_enter Tryz.func204,Tryz.ntmps204
  go_wp2
  go_ret
  exact⟨_,rfl,brf,qds _ _ _ _⟩
 ·have hrz:∀ty,(Builtin.append_ #[162,3] ty #[.slice none 0 0, .int .i64 n]).run Tryz.prog w=
    .ok (.slice (some ⟨w.heap.size,0,none⟩) n (grownCap w n 0 190)) (w.drew.alloc (.cells (#[]++Builtin.zeroCells (v4 (0,0,0,0)).cells n++Builtin.zeroCells (v4 (0,0,0,0)).cells (grownCap w n 0 190-n)) 190)):=fun ty=>by
   have h:=Lib.run_append_grow_zeros w 162 3 ty 190 i0 (v4 (0,0,0,0)) .i64 .i64 Dp eJ hi0 hz0 none 0 0 [] (run_firstCells_none w.drew i0.size 0 0 0) n (by omega) (by omega) (by omega) (by omega) (by rw[hz2];omega) (growslice_fits (by omega) (by rw[hz2];omega))
   simpa using h
  have hGn:n≤grownCap w n 0 190:=grownCap_ge w _ _ _
  have hGm:grownCap w n 0 190≤maxLen:=grownCap_le_maxLen w n 0 190 (by unfold maxLen;omega)
  generalize grownCap w n 0 190=G at*
  have h1:¬((n:Int)<0):=by omega
  have h2:0<n:=by omega
  have hG63:G≤9223372036854775807:=by unfold maxLen at hGm;omega
  have Hrz:=fun ty=>YJ (hrz ty)
  have Hm:=YJ hGm
  clear hrz hi0 hz0 hz1 hz2 hGm
  go_enter Tryz.func204,Tryz.ntmps204
  go_wp2_with (at_builtin;refine Lib.wpList_append_run _ rfl _ _ _ _ rfl _ _ rfl rfl _ _ (Hrz _).out ?_)
  go_ret
  refine⟨_,rfl,Below.alloc (Below.drew (brf)) (by simp) _,World.ownsRow_made _ _ G (by simp) Hm.out ?_⟩
  rw[Array.size_append,size_zeroCells,size_zeroCells]
  show n*4+(G-n)*4=G*4
  omega
set_option maxRecDepth 100000 in
theorem FZ (w:World) (b off cc:Nat) (css:List (List Value)) (hp:vh w 4 b off css) (h0:0<css.length) (hcs:css.length≤1000000) (hone:∀cs∈css,∀u∈cs,u.oneCell'=true) (hl:css.flatten.length≤1000000):
  Calls Tryz.prog 155 #[.slice (some ⟨b,off,none⟩) css.length cc] w fun e w'=>∃r m,e= .returned r∧Below w.heap.size w w'∧w'.ownsRow w.heap.size 190 4 r m css.flatten:=by
 obtain⟨i0,Hi0⟩:=qfT cY
 have HP:=YJ hp
 have H1:=YJ hone
 obtain⟨n,Hn⟩:∃n,Hid (css.length=n):=⟨_,YJ rfl⟩
 rw[Hn.out]at h0 hcs ⊢
 have Hl:=YJ hl
 have zb:b<w.heap.size:=by
  obtain⟨u,hu,_⟩:=hp 0 (by have:=Hn.out;omega)
  exact qaC w _ hu
 clear hp hone hl
 go_enter Tryz.func155,Tryz.ntmps155
 go_wp2
 go_loopw [3,11] (fun s i wr=>w=wr∧∃k T:Nat,k≤n∧i= .int .i64 k∧s= .int .i64 T∧Hid (T*4=(css.take k).flatten.length)) (fun _ i _=>n-(intOf i).toNat)
 case atStart=>exact⟨rfl,0,0,by omega,rfl,rfl,YJ (by simp)⟩
 case round=>
  obtain⟨rfl,k,T,hk,rfl,rfl,HT⟩:=hrel
  by_cases hlt:k<n
  ·have hk':k<css.length:=by have:=Hn.out;omega
   obtain⟨u,cu,a,m,c,rfl,hm,hz,hc⟩:=HP.out k hk'
   have hTm:(T+m)*4=(css.take (k+1)).flatten.length:=by rw[fA hk',qaE,hm,Nat.add_mul,HT.out]
   have hT9:T+m≤1000000:=by have:=iF css (k+1);have:=Hl.out;omega
   have HTm:=YJ hTm
   have w1:IntKind.i64.wrap ((T:Int)+(m:Int))=((T+m:Nat):Int):=(IntWalk.i64_in _ (by omega)).trans (by omega)
   clear hTm hm hz hc hk'
   go_wp2
   go_roundw
   case rel=>exact⟨trivial,k+1,T+m,by omega,by go_num,rfl,HTm⟩
   simp[intOf];omega
  ·obtain rfl:n=k:=by omega
   have hT9:T≤1000000:=by have:=iF css n;have:=Hl.out;have:=HT.out;omega
   have hg:=YJ (JE T w hT9)
   go_wp2_with fail
   refine hg.out.mono ?_
   rintro e w1 ⟨r,rfl,hb1,ho1⟩
   have HO1:=YJ ho1
   clear ho1 hg
   go_wp2
   go_loopw [6,27] (fun s i wr=>∃k T:Nat,k≤n∧i= .int .i64 k∧Below w.heap.size w wr∧Hid (wr.ownsRow w.heap.size 190 4 s T (css.take k).flatten)) (fun _ i _=>n-(intOf i).toNat)
   case atStart=>exact⟨0,0,by omega,rfl,hb1,HO1⟩
   case round=>
    clear hb1 HO1
    obtain⟨k,T,hk,rfl,hb,HO⟩:=hrel
    by_cases hlt:k<n
    ·have hk':k<css.length:=by have:=Hn.out;omega
     obtain⟨u,cu,a,m,c,rfl,hm,hz,hc⟩:=HP.out k hk'
     have cu':=ab hb cu
     have zb':b<wr.heap.size:=qaC wr _ cu'
     have hTm:T*4=(css.take k).flatten.length:=HO.out.1.symm
     have hT9:(T+m)*4≤1000000:=by have:=iF css (k+1);rw[fA hk',qaE]at this;have:=Hl.out;omega
     have Hs:=YJ (fA hk')
     have h1:=YJ (H1.out _ (qaB hk'))
     have Hc:=YJ hc
     have Hm:=YJ hm
     clear hTm hm hc cu
     generalize css[k]=ck at*
     clear hk'
     cases a with
     |none=>
      obtain⟨rfl,rfl⟩:=hz rfl
      have hnil:ck=[]:=alto.1 (by simpa using Hm.out)
      rw[hnil]at Hs
      clear Hc Hm h1 hz hnil
      go_wp2_with (at_builtin;refine wpList_append_own_none rfl _ _ 162 rfl w.heap.size 190 i0 4 Dp Hi0.out.1 u6 T _ rfl HO.out rfl ?_)
      go_roundw
      case rel=>exact⟨k+1,T,by omega,by go_num,hb,YJ (by rw[Hs.out];simpa using HO.out)⟩
      simp[intOf];omega
     |some ad=>
      clear hz
      go_wp2_with (at_builtin;refine wpList_append_own _ rfl _ _ 162 rfl w.heap.size 190 i0 (v4 (0,0,0,0)) 4 32 Dp Hi0.out.1 Hi0.out.2.1 Hi0.out.2.2.1 Hi0.out.2.2.2 rfl (by decide) u6 T _ rfl HO.out ad m c _ rfl Hm.out ?c1 h1.out ?c3 ?c4 ?c5 ?_)
      case c1=>exact fun j u hu=>ab hb (Hc.out ad rfl j u hu)
      case c3=>unfold maxLen;omega
      case c4=>omega
      case c5=>exact hb.size
      intro v' w2 hown2 hg2 _
      have hbw2:Below w.heap.size w w2:=hb.grown hg2 hb.size (fun q hq=>(HO.out.lt q hq).1)
      have HO3:=YJ hown2
      clear hown2 hg2
      go_wp2
      go_roundw
      case rel=>exact⟨k+1,T+m,by omega,by go_num,hbw2,YJ (by rw[Hs.out];exact HO3.out)⟩
      simp[intOf];omega
    ·obtain rfl:n=k:=by omega
     go_wp2
     go_ret
     exact⟨_,_,rfl,hb,by have:=HO.out;rwa [qaK (by have:=Hn.out;omega)]at this⟩
theorem GG {w:World} {v:Value} {xs:List Q4} (h:Q4s w v xs) (h0:0<xs.length):Raw w 4 v (xs.flatMap aH):=by
 obtain⟨a,n,c,rfl,hn,hc,hx⟩:=h
 obtain⟨b,off,rfl,hi⟩:=hx (by omega)
 exact⟨_,n,c,rfl,by rw[bh,hn],(fun h=>by cases h),(fun ad h=>by cases h;exact MA hi)⟩
theorem eW {w:World} {b o:Nat} {p:Addr} {u:Value} (h:b≠p.block):(w.setCell p u).cell? ⟨b,o,none⟩=w.cell? ⟨b,o,none⟩:=by
 simp only[World.cell?,qaH w p u b h]
theorem EW {w:World} {v:Value} {xs:List Q4} {g:Nat} {a b:Value} {T:TypeId} (h:Q4s w v xs) (hg:w.heap[g]? =some (.cells #[a,b] T (0,0))) (ha:∀i,a≠ .int .i64 i) (hb:∀i,b≠ .int .i64 i) (o:Nat) (u:Value):Q4s (w.setCell ⟨g,o,none⟩ u) v xs:=by
 obtain⟨ad,n,c,e,hn,hc,hx⟩:=h
 refine⟨ad,n,c,e,hn,hc,fun h0=> ?_⟩
 obtain⟨k,off,e2,hi⟩:=hx h0
 have hbg:k≠g:=by
  rintro rfl
  have h1:=(hi 0 (by omega)).1
  rw[bq hg]at h1
  match off,h1 with
  |0,h1=>simp at h1;exact ha _ h1
  |1,h1=>simp at h1;exact hb _ h1
  |n+2,h1=>simp at h1
 refine⟨k,off,e2,fun i hil=> ?_⟩
 obtain⟨c0,c1,c2,c3⟩:=hi i hil
 exact⟨(eW hbg).trans c0,(eW hbg).trans c1,(eW hbg).trans c2,(eW hbg).trans c3⟩
theorem xv {w:World} {g:Nat} {x0 x1:Value} {t:TypeId} (h:w.heap[g]? =some (.cells #[x0,x1] t (0,0))):w.cell? ⟨g,0,none⟩=some x0∧w.cell? ⟨g,1,none⟩=some x1∧g<w.heap.size:=⟨(bq h 0).trans rfl,(bq h 1).trans rfl,ah h⟩
def MG (ps:List Q4) (W:World) (e:Ending) (w':World):Prop:=∃pv cv,e= .returned (.agg #[pv,cv])∧Below W.heap.size W w'∧Q4s w' pv ps∧w'.ownsRow W.heap.size 186 4 cv (aS ps).length ((aS ps).flatMap aH)
set_option maxRecDepth 100000 in
theorem EX (ps qs:List Q4) (pv cv qv dv:Value) (W:World) (hps:∀p∈ps,bI p) (hqs:∀p∈qs,bI p) (h0:0<ps.length) (h1:0<qs.length) (hl:ps.length≤16) (hl2:qs.length≤16)
  (hc:∃a n c,cv= .slice a n c) (hd:∃a n c,dv= .slice a n c) (hpv:Q4s W pv ps) (hqv:Q4s W qv qs):
  Calls Tryz.prog 109 #[.agg #[pv,cv], .agg #[qv,dv]] W (MG (ps++qs) W):=by
 obtain⟨V,HV⟩:∃V,Hid ((((W.alloc (.cells #[pv,cv] 184)).alloc (.cells #[qv,dv] 184)).alloc (.cells #[.slice none 0 0, .slice none 0 0] 184)).alloc (.cells #[pv,qv] 162)=V):=⟨_,YJ rfl⟩
 have hV:Below W.heap.size W V:=by rw[←HV.out];exact bel
 have HR:Hid (V.heap[W.heap.size+2]? =some (.cells #[.slice none 0 0, .slice none 0 0] 184 (0,0))):=YJ (by rw[←HV.out];exact(aB (by simp)).trans (ai (by simp)))
 have HB:V.heap[W.heap.size+3]? =some (.cells #[pv,qv] 162 (0,0)):=by rw[←HV.out];exact ai (by simp)
 have hcat:=YJ (FZ V (W.heap.size+3) 0 2 [ps.flatMap aH,qs.flatMap aH] (fun i hi=>by
  rcases(by simp at hi;omega:i=0∨i=1)with rfl|rfl
  ·exact⟨pv,(bq HB 0).trans rfl,GG (hpv.below hV) h0⟩
  ·exact⟨qv,(bq HB 1).trans rfl,GG (hqv.below hV) h1⟩) (by simp) (by simp) (by
   intro cs hcs
   simp only[alsk,List.not_mem_nil,or_false]at hcs
   rcases hcs with rfl|rfl<;>exact qcz _) (by simp only[List.flatten_cons,List.flatten_nil,qgd,qaE,bh];omega))
 have HE:Hid ([ps.flatMap aH,qs.flatMap aH].flatten=(ps++qs).flatMap aH):=YJ (by simp)
 rw[HE.out]at hcat
 have HBo:=fun v W' (h:Q4s W' v (ps++qs))=>YJ (qQ (ps++qs) v W' (fun p hp=>(altl.1 hp).elim (hps p) (hqs p)) (by rw[qaE];omega) h)
 have HL:Hid ((ps++qs).length=ps.length+qs.length):=YJ qaE
 obtain⟨pa,pn,pc,rfl, -⟩:=hpv
 obtain⟨qa,qn,qc,rfl, -⟩:=hqv
 obtain⟨ca,cn,cc,rfl⟩:=hc
 obtain⟨da,dn,dc,rfl⟩:=hd
 generalize ps++qs=rs at*
 clear hps hqs HE HB
 go_enter Tryz.func109,Tryz.ntmps109
 go_wp2_with fail
 try rw[HV.out]
 refine hcat.out.mono ?_
 rintro e w1 ⟨r,m,rfl,hb1,ho⟩
 have hw1:=fB hV hb1
 have HR1:=YJ ((hb1.block _ (ah HR.out)).trans HR.out)
 have hm:m=rs.length:=by have:=ho.1;rw[bh]at this;omega
 rw[hm]at ho
 have HQ:=YJ (jz ho)
 obtain⟨ra,rc,rfl⟩:=aT ho
 clear hcat hm ho hb1 HR HV hV
 have HBr:=YJ ((HBo _ w1 HQ.out).out)
 clear HBo
 generalize rs.length=rn at*
 go_wp2_with fail
 refine(HBr.out).mono ?_
 rintro e w2 ⟨v2,rfl,hb2,ho2⟩
 have hw2:=fB hw1 hb2
 have HR2:=YJ ((hb2.block _ (ah HR1.out)).trans HR1.out)
 have HQ2:=YJ (HQ.out.below hb2)
 have HO2:=YJ (AY ho2 (show W.heap.size≤w1.heap.size+2 by have:=hw1.size;omega))
 have hne:=YJ (aG ho2 HR2.out (by decide))
 obtain⟨va,vc,rfl⟩:=aT ho2
 clear hb2 HR1 HQ HBr ho2
 obtain⟨cl,HCL⟩:∃cl,Hid ((aS rs).length=cl):=⟨_,YJ rfl⟩
 rw[HCL.out]at HO2 hne ⊢
 have b0:w2.cell? ⟨W.heap.size+2,0,none⟩=some (.slice none 0 0):=(bq HR2.out 0).trans rfl
 have b1:w2.cell? ⟨W.heap.size+2,1,none⟩=some (.slice none 0 0):=(bq HR2.out 1).trans rfl
 have bf:=aC HR2.out
 have bz:=ah HR2.out
 go_wp2
 have HR3:(w2.setCell ⟨W.heap.size+2,0,none⟩ (.slice ra rn rc)).heap[W.heap.size+2]? =some (.cells #[.slice ra rn rc, .slice none 0 0] 184 (0,0)):=by have:=Tu HR2.out 0 (.slice ra rn rc);simpa using this
 refine bodyPost_ret (v:= .agg #[.slice ra rn rc, .slice va cl vc]) (by simp[results,Tryz.results109,go_sem,b0,b1,bz]) rfl ⟨_,_,rfl, ?_, ?_, ?_⟩
 ·iterate 2 (refine qga ?_ (by first|exact qaA _|exact Nat.le_succ _|(simp;done)|(simp;omega)) _)
  exact hw2
 ·exact EW (EW HQ2.out HR2.out (fun _ h=>by cases h) (fun _ h=>by cases h) _ _) HR3 (fun _ h=>by cases h) (fun _ h=>by cases h) _ _
 ·rw[HCL.out]
  exact aF (aF HO2.out ⟨W.heap.size+1+1,0,none⟩ _ (fun e=>hne.out e.symm)) ⟨W.heap.size+1+1,1,none⟩ _ (fun e=>hne.out e.symm)
def Cy (ps cs qs ds:List Q4):Bool:=(ps.any fun p=> !gM ds p) || (qs.any fun q=> !gM cs q)
theorem Ga (p c:Q4) (b:Nat) (w:World) (hp:bI p) (hc:fD c) (hb:w.heap[b]? =some (.cells #[.int .i64 p.1, .int .i64 p.2.1, .int .i64 p.2.2.1, .int .i64 p.2.2.2] 190 (0,0))):
  gH Tryz.prog 152 #[.pointer (some ⟨b,0,none⟩)] w (v4 c) (decide (sd p c<0)):=by
 intro w' hw
 have hs:=fun W=>YJ (qI p c W hp hc)
 obtain⟨h0,h1,h2,h3,_,hlt⟩:=am ((hw.block _ (ah hb)).trans hb)
 clear hb
 show Calls _ _ #[v4 c, .pointer (some ⟨b,0,none⟩)] w' _
 go_enter Tryz.func152,Tryz.ntmps152
 go_wp2_with fail
 refine((hs _).out).mono ?_
 rintro e w1 ⟨rfl,hb1⟩
 go_wp2
 go_ret
 exact⟨rfl,fB bel hb1⟩
theorem LX:∀args w,(callFunc 152 args).run Tryz.prog w= .ok (.enter 152 args) w:=enters_of Tryz.func152 (by kernel_rfl) rfl
theorem LY:∀args w,(callFunc 150 args).run Tryz.prog w= .ok (.enter 150 args) w:=enters_of Tryz.func150 (by kernel_rfl) rfl
theorem Gb (p:Q4) (cs:List Q4) (b:Nat) (qv cv:Value) (w:World) (hp:bI p) (hcs:∀c∈cs,fD c) (hl:cs.length≤1000000) (hb:w.heap[b]? =some (.cells #[qv,cv] 184 (0,0))) (hcv:Q4s w cv cs):
  gH Tryz.prog 150 #[.pointer (some ⟨b,0,none⟩)] w (v4 p) (!gM cs p):=by
 intro w' hw
 have hB:=(hw.block _ (ah hb)).trans hb
 obtain⟨W,HW⟩:∃W,Hid (W=w'.alloc (.cells #[.int .i64 p.1, .int .i64 p.2.1, .int .i64 p.2.2.1, .int .i64 p.2.2.2] 190)):=⟨_,YJ rfl⟩
 have hbW:Below w'.heap.size w' W:=by rw[HW.out];exact bel
 have hblk:W.heap[w'.heap.size]? =some (.cells #[.int .i64 p.1, .int .i64 p.2.1, .int .i64 p.2.2.1, .int .i64 p.2.2.2] 190 (0,0)):=by rw[HW.out];exact ai rfl
 have hcon:=fo cv cs (fun c=>decide (sd p c<0)) _ _ W ((hcv.below hw).below hbW) (by omega) LX (fun c hc=>Ga p c _ W hp (hcs c hc) hblk)
 have hin:(cs.any fun c=>decide (sd p c<0))=gM cs p:=rfl
 rw[hin,HW.out]at hcon
 have Hcon:=YJ hcon
 obtain⟨ca,cn,cc,rfl, -⟩:=hcv
 have k1:w'.cell? ⟨b,1,none⟩=some (.slice ca cn cc):=(bq hB 1).trans rfl
 have kz:=ah hB
 clear hcon hin hblk hbW hB hb HW
 generalize gM cs p=ib at*
 show Calls _ _ #[v4 p, .pointer (some ⟨b,0,none⟩)] w' _
 go_enter Tryz.func150,Tryz.ntmps150
 go_wp2_with fail
 refine(Hcon.out).mono ?_
 rintro e w1 ⟨rfl,hb1⟩
 go_wp2
 go_ret
 exact⟨rfl,fB bel hb1⟩
theorem Dq (ps ds:List Q4) (pv cv qv dv:Value) (w:World) (hps:∀p∈ps,bI p) (hds:∀c∈ds,fD c) (hl:ps.length≤1000000) (hl2:ds.length≤1000000) (hc:∃a n c,cv= .slice a n c) (hq:∃a n c,qv= .slice a n c)
  (hpv:Q4s w pv ps) (hdv:Q4s w dv ds):Calls Tryz.prog 148 #[.agg #[pv,cv], .agg #[qv,dv]] w (Ret w (.bool (ps.any fun p=> !gM ds p))):=by
 obtain⟨V,HV⟩:∃V,Hid ((w.alloc (.cells #[pv,cv] 184)).alloc (.cells #[qv,dv] 184)=V):=⟨_,YJ rfl⟩
 have hV:Below w.heap.size w V:=by rw[←HV.out];exact bel
 have hB:V.heap[w.heap.size+1]? =some (.cells #[qv,dv] 184 (0,0)):=by rw[←HV.out];exact ai (by simp)
 have Hcon:=YJ (fE pv ps (fun p=> !gM ds p) _ _ V (hpv.below hV) (by omega) LY (fun p hp=>Gb p ds (w.heap.size+1) qv dv V (hps p hp) hds hl2 hB (hdv.below hV)))
 generalize(ps.any fun p=> !gM ds p)=r at*
 obtain⟨pa,pn,pc,rfl, -⟩:=hpv
 obtain⟨da,dn,dc,rfl, -⟩:=hdv
 obtain⟨ca,cn,cc,rfl⟩:=hc
 obtain⟨qa,qn,qc,rfl⟩:=hq
 clear hB hps hds
 go_enter Tryz.func148,Tryz.ntmps148
 go_wp2_with fail
 try rw[HV.out]
 refine(Hcon.out).mono ?_
 rintro e w1 ⟨rfl,hb1⟩
 go_wp2
 go_ret
 exact⟨rfl,fB hV hb1⟩
theorem Iq (ps cs qs ds:List Q4) (pv cv qv dv:Value) (w:World) (hps:∀p∈ps,bI p) (hqs:∀p∈qs,bI p) (hcs:∀c∈cs,fD c) (hds:∀c∈ds,fD c) (l1:ps.length≤1000000) (l2:cs.length≤1000000) (l3:qs.length≤1000000) (l4:ds.length≤1000000)
  (hpv:Q4s w pv ps) (hcv:Q4s w cv cs) (hqv:Q4s w qv qs) (hdv:Q4s w dv ds):Calls Tryz.prog 108 #[.agg #[pv,cv], .agg #[qv,dv]] w (Ret w (.bool (Cy ps cs qs ds))):=by
 have sh:∀{v:Value} {xs:List Q4},Q4s w v xs→∃a n c,v= .slice a n c:=fun h=>by obtain⟨a,n,c,e,_⟩:=h;exact⟨a,n,c,e⟩
 have H1:=fun W' (hb:Below w.heap.size w W')=>YJ (Dq ps ds pv cv qv dv W' hps hds l1 l4 (sh hcv) (sh hqv) (hpv.below hb) (hdv.below hb))
 have H2:=fun W' (hb:Below w.heap.size w W')=>YJ (Dq qs cs qv dv pv cv W' hqs hcs l3 l2 (sh hdv) (sh hpv) (hqv.below hb) (hcv.below hb))
 obtain⟨V,HV⟩:∃V,Hid ((w.alloc (.cells #[pv,cv] 184)).alloc (.cells #[qv,dv] 184)=V):=⟨_,YJ rfl⟩
 have hV:Below w.heap.size w V:=by rw[←HV.out];exact bel
 have HA:Hid (V.heap[w.heap.size]? =some (.cells #[pv,cv] 184 (0,0))):=YJ (by rw[←HV.out];exact(aB (by simp)).trans (ai rfl))
 have HB:Hid (V.heap[w.heap.size+1]? =some (.cells #[qv,dv] 184 (0,0))):=YJ (by rw[←HV.out];exact ai (by simp))
 have Hap:Hid (Cy ps cs qs ds=((ps.any fun p=> !gM ds p) || (qs.any fun q=> !gM cs q))):=YJ rfl
 generalize(ps.any fun p=> !gM ds p)=r1 at*
 generalize(qs.any fun q=> !gM cs q)=r2 at*
 generalize Cy ps cs qs ds=res at*
 obtain⟨pa,pn,pc,rfl, -⟩:=hpv
 obtain⟨da,dn,dc,rfl, -⟩:=hdv
 obtain⟨ca,cn,cc,rfl, -⟩:=hcv
 obtain⟨qa,qn,qc,rfl, -⟩:=hqv
 have H1':=YJ ((H1 V hV).out)
 clear H1 hps hqs hcs hds
 go_enter Tryz.func108,Tryz.ntmps108
 cases r1 with
 |true=>
  go_wp2_with fail
  try rw[HV.out]
  refine(H1'.out).mono ?_
  rintro e w1 ⟨rfl,hb1⟩
  go_wp2
  go_ret
  exact⟨ay (by rw[Hap.out];rfl),fB hV hb1⟩
 |false=>
  go_wp2_with fail
  try rw[HV.out]
  refine(H1'.out).mono ?_
  rintro e w1 ⟨rfl,hb1⟩
  have HA1:=YJ ((hb1.block _ (ah HA.out)).trans HA.out)
  have HB1:=YJ ((hb1.block _ (ah HB.out)).trans HB.out)
  have hw1:=fB hV hb1
  have H2':=YJ ((H2 w1 hw1).out)
  clear H2 hb1 H1' HA HB
  obtain⟨a0,a1,az⟩:=xv HA1.out
  obtain⟨b0,b1,bz⟩:=xv HB1.out
  go_wp2_with fail
  refine(H2'.out).mono ?_
  rintro e w2 ⟨rfl,hb2⟩
  go_wp2
  go_ret
  exact⟨ay (by rw[Hap.out];rfl),fB hw1 hb2⟩
end
end Go.Proofs.YtffbilcjhlncfaaGreatDoor
