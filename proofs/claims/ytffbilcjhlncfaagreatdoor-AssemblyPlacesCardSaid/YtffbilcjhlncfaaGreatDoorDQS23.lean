/- texts: M2. -/
import Derived.Test.YtffbilcjhlncfaaGreatDoorDQS22
namespace Go.Proofs.YtffbilcjhlncfaaGreatDoor
set_option maxHeartbeats 8000000
set_option linter.all false
section
open Go.RowKit Go.Shelf Go.Lib
set_option maxRecDepth 100000
attribute [local go_sem] Ext.cell Ext.frozen
def ParX (B:Nat) (w:World) (u:Value) (bs:List Bod) (xs:List Value):Prop:=
 ∀i (h:i<bs.length),∃p c,xs[i*2]? =some p∧xs[i*2+1]? =some c∧Q4s w p bs[i].1∧Q4s w c bs[i].2∧Ap p u∧Ap c u∧Fsh B p∧Fsh B c
def ParO (w:World) (B:Nat) (v:Value) (bs:List Bod):Prop:=∃xs,w.ownsRow B 216 2 v bs.length xs∧ParX B w v bs xs
theorem ParX.below {B:Nat} {w w':World} {u:Value} {bs:List Bod} {xs:List Value} (h:ParX B w u bs xs) (hb:Below w.heap.size w w'):ParX B w' u bs xs:=fun i hi=>by
 obtain⟨p,c,h1,h2,h3,h4,h5⟩:=h i hi
 exact⟨p,c,h1,h2,h3.below hb,h4.below hb,h5⟩
theorem ParX.snoc {B:Nat} {w w2:World} {u u2 p c:Value} {bs:List Bod} {xs:List Value} {b:Bod} (h:ParX B w u bs xs) (hl:xs.length=bs.length*2) (hg:w.grownBy w2 u.ownBlock) (hu:u2.ownBlock=u.ownBlock∨u2.ownBlock=some w.heap.size)
  (hp:Q4s w p b.1) (hc:Q4s w c b.2) (ap:Ap p u) (ac:Ap c u) (fp:Fsh B p) (fc:Fsh B c):ParX B w2 u2 (bs++[b]) (xs++[p,c]):=fun i hi=>by
 by_cases h1:i<bs.length
 ·obtain⟨p',c',e1,e2,e3,e4,e5,e6,e7⟩:=h i h1
  rw[qgn h1]
  exact⟨p',c',by rw[List.getElem?_append_left (by omega)];exact e1,by rw[List.getElem?_append_left (by omega)];exact e2,e3.grown hg e5,e4.grown hg e6,e5.grow1 e3 hu,e6.grow1 e4 hu,e7⟩
 ·have h2:i=bs.length:=by simp at hi;omega
  subst h2
  refine⟨p,c,by rw[List.getElem?_append_right (by omega),hl,Nat.sub_self];rfl,by rw[List.getElem?_append_right (by omega),hl,Nat.add_sub_cancel_left];rfl, ?_⟩
  simp only[List.getElem_append_right (qaA bs.length),Nat.sub_self,qdt]
  exact⟨hp.grown hg ap,hc.grown hg ac,ap.grow1 hp hu,ac.grow1 hc hu,fp,fc⟩
def PartV (w:World) (v:Value) (bs:List Bod):Prop:=∃a n c,v= .slice a n c∧bs.length=n∧n≤c∧
 (0<n→∃g off,a=some ⟨g,off,none⟩∧∀i (h:i<bs.length),∃p q,w.cell? ⟨g,off+i*2,none⟩=some p∧w.cell? ⟨g,off+i*2+1,none⟩=some q∧Q4s w p bs[i].1∧Q4s w q bs[i].2)
theorem PartV.below {w w':World} {v:Value} {bs:List Bod} (h:PartV w v bs) (hb:Below w.heap.size w w'):PartV w' v bs:=by
 obtain⟨a,n,c,hv,hn,hc,hx⟩:=h
 refine⟨a,n,c,hv,hn,hc,fun h0=> ?_⟩
 obtain⟨g,off,e,hi⟩:=hx h0
 refine⟨g,off,e,fun i h=> ?_⟩
 obtain⟨p,q,h1,h2,h3,h4⟩:=hi i h
 exact⟨p,q,ab hb h1,ab hb h2,h3.below hb,h4.below hb⟩
def PartF (B:Nat) (w:World) (v:Value) (bs:List Bod):Prop:=∃a n c,v= .slice a n c∧bs.length=n∧n≤c∧
 (0<n→∃g off,a=some ⟨g,off,none⟩∧B≤g∧∀i (h:i<bs.length),∃p q,w.cell? ⟨g,off+i*2,none⟩=some p∧w.cell? ⟨g,off+i*2+1,none⟩=some q∧Q4s w p bs[i].1∧Q4s w q bs[i].2∧Fsh B p∧Fsh B q)
theorem PartF.part {B:Nat} {w:World} {v:Value} {bs:List Bod} (h:PartF B w v bs):PartV w v bs:=by
 obtain⟨a,n,c,hv,hn,hc,hx⟩:=h
 refine⟨a,n,c,hv,hn,hc,fun h0=> ?_⟩
 obtain⟨g,off,e,_,hi⟩:=hx h0
 exact⟨g,off,e,fun i h=>by obtain⟨p,q,h1,h2,h3,h4,_⟩:=hi i h;exact⟨p,q,h1,h2,h3,h4⟩⟩
theorem PartF.below {B:Nat} {w w':World} {v:Value} {bs:List Bod} (h:PartF B w v bs) (hb:Below w.heap.size w w'):PartF B w' v bs:=by
 obtain⟨a,n,c,hv,hn,hc,hx⟩:=h
 refine⟨a,n,c,hv,hn,hc,fun h0=> ?_⟩
 obtain⟨g,off,e,hB,hi⟩:=hx h0
 refine⟨g,off,e,hB,fun i h=> ?_⟩
 obtain⟨p,q,h1,h2,h3,h4,h5⟩:=hi i h
 exact⟨p,q,ab hb h1,ab hb h2,h3.below hb,h4.below hb,h5⟩
theorem ParO.sliceF {w:World} {B:Nat} {v:Value} {bs:List Bod} (h:ParO w B v bs):PartF B w v bs:=by
 obtain⟨xs,ho,hX⟩:=h
 have hl:=ho.1
 rcases ho.2 with⟨rfl,h0⟩|⟨g,cap,cur,rfl,hb,hh,hnc,hcm,hcs,htk⟩
 ·exact⟨none,0,0,rfl,h0,qaA _,fun h=>absurd h (by omega)⟩
 ·refine⟨_,_,_,rfl,rfl,hnc,fun _=>⟨g,0,rfl,hb,fun i hi=> ?_⟩⟩
  obtain⟨p,c,e1,e2,e3,e4,_,_,e5⟩:=hX i hi
  have hc:∀j,j<bs.length*2→w.cell? ⟨g,j,none⟩=xs[j]? :=fun j hj=>by
   rw[bq hh, ←htk,qdx hj,Array.getElem?_toList]
  exact⟨p,c,by rw[qfW,hc _ (by omega)];exact e1,by rw[qfW,hc _ (by omega)];exact e2,e3,e4,e5⟩
theorem ParO.slice {w:World} {B:Nat} {v:Value} {bs:List Bod} (h:ParO w B v bs):PartV w v bs:=by
 obtain⟨xs,ho,hX⟩:=h
 have hl:=ho.1
 rcases ho.2 with⟨rfl,h0⟩|⟨g,cap,cur,rfl,hb,hh,hnc,hcm,hcs,htk⟩
 ·exact⟨none,0,0,rfl,h0,qaA _,fun h=>absurd h (by omega)⟩
 ·refine⟨_,_,_,rfl,rfl,hnc,fun _=>⟨g,0,rfl,fun i hi=> ?_⟩⟩
  obtain⟨p,c,e1,e2,e3,e4,_⟩:=hX i hi
  have hc:∀j,j<bs.length*2→w.cell? ⟨g,j,none⟩=xs[j]? :=fun j hj=>by
   rw[bq hh, ←htk,qdx hj,Array.getElem?_toList]
  exact⟨p,c,by rw[qfW,hc _ (by omega)];exact e1,by rw[qfW,hc _ (by omega)];exact e2,e3,e4⟩
def Ii (b:Bod):Prop:=okBd 0 b∧∀x∈b.1,bI x
def DC (ps:List Q4):Prop:=(∀p∈ps,bI p)∧0<ps.length∧ps.length≤16
theorem Ij {ps:List Q4} (h:DC ps):Ii (bp ps):=
 ⟨Ig h.2.2 h.1 (fun c hc=>IX (tE h.1 c hc)),fun x hx=>h.1 x ((BM ps _).2 x hx)⟩
theorem Dl {ps:List Q4} (h:bK ps=0):DC ps:=by
 unfold bK at h
 split at h
 ·cases h
 ·rename_i h16
  split at h
  ·rename_i h1;exact absurd h h1
  ·rename_i h1
   split at h
   ·cases h
   ·rename_i hb
    have hf:cJ ps=0:=by simpa using h1
    refine⟨fun p hp=> ?_,FS (by simpa using hb),by omega⟩
    have:∀l:List Q4,cJ l=0→∀p∈l,bP p=0:=by
     intro l
     induction l with
     |nil=>intro _ p hp;cases hp
     |cons q l ih=>
      intro hl p hp
      unfold cJ at hl
      split at hl
      ·rename_i hq
       rcases alsk.1 hp with rfl|hp
       ·exact hq
       ·exact ih hl p hp
      ·rename_i hq;exact absurd hl hq
    exact DB (this ps hf p hp)
theorem Ik:Tryz.prog.underlying 154=some (.slice 216):=by kernel_rfl
theorem FV:(Tryz.prog.info? 216).map (fun i=>(i.zero,i.size,i.bytes))=some (some (.agg #[.slice none 0 0, .slice none 0 0]),2,48):=by kernel_rfl
def MX (bs:List Bod) (W:World) (e:Ending) (w':World):Prop:=∃v,e= .returned v∧Below W.heap.size W w'∧PartV w' v bs∧PartF W.heap.size w' v bs
theorem BZ (css:List (List Q4)) (sv:Value) (W:World) (hok:∀c∈css,DC c) (hl:css.length≤1000000) (h:SolV W sv css):
  Calls Tryz.prog 86 #[.agg #[sv]] W (MX (css.map bp) W):=by
 obtain⟨V,HV⟩:∃V,Hid (W.alloc (.cells #[sv] 75)=V):=⟨_,YJ rfl⟩
 have hV:Below W.heap.size W V:=by rw[←HV.out];exact bel
 obtain⟨a,n,cc,rfl,hn,_,hx⟩:=h
 have HX:=YJ hx
 have HOk:=fun i (h:i<css.length)=>YJ (hok _ (qaB h))
 have Hn:=YJ hn
 obtain⟨i0,hi0,hz0,hz1,hz2⟩:=info_parts FV
 have Hi0:=YJ (And.intro hi0 (And.intro hz0 (And.intro hz1 hz2)))
 clear hx hok hi0 hz0 hz1 hz2
 go_enter Tryz.func86,Tryz.ntmps86
 go_wp2
 rw[HV.out]
 go_loopw [3,9] (fun s x wr=>∃k:Nat,k≤n∧x= .int .i64 k∧Below W.heap.size W wr∧Hid (ParO wr W.heap.size s ((css.take k).map bp))) (fun _ x _=>n-(intOf x).toNat)
 case atStart=>exact⟨0,by omega,rfl,hV,YJ ⟨[],qds _ _ _ _,fun i h=>by simp at h⟩⟩
 case round=>
  obtain⟨k,hk,rfl,hb,HR⟩:=hrel
  obtain⟨xs,ho,hX⟩:=HR.out
  have Htl:Hid (((css.take k).map bp).length=k):=YJ (by rw[qdo,qge];omega)
  rw[Htl.out]at ho
  obtain⟨sa,sc,rfl⟩:=aT ho
  have HO:=YJ ho
  have HBX:=YJ hX
  by_cases hlt:k<n
  ·have g1:(k:Int)<(n:Int):=by omega
   have g2:(0:Int)≤(k:Int):=by omega
   have hil:k<css.length:=by omega
   obtain⟨b,off,rfl,hi4⟩:=HX.out (by omega)
   obtain⟨cu,e0,hq⟩:=hi4 k hil
   have e0:=ab hb e0
   have ze:=qaC wr _ e0
   simp only at ze
   have HQ:=YJ hq
   have Htk:Hid ((css.take (k+1)).map bp=(css.take k).map bp++[bp css[k]]):=YJ (by rw[qaI hil,qgh];rfl)
   have HRd:=fun W' (h:Below W.heap.size W W')=>YJ (EJ css[k] cu W' (HOk k hil).out.1 (HOk k hil).out.2.1 (qaD (HOk k hil).out.2.2 (by decide)) (HQ.out.below h))
   obtain⟨ua,um,uc,rfl, -⟩:=hq
   have hbc:Below W.heap.size W (wr.alloc (.cells #[.slice ua um uc] 164)):=fB hb bel
   clear hi4 HX HOk HR ho hX
   generalize bp css[k]=bd at*
   go_wp2_with fail
   refine((HRd _ hbc).out).mono ?_
   rintro en w1 ⟨pv,cv,rfl,hb1,hq1,hq2,hf1,hf2⟩
   have hbw1:Below wr.heap.size wr w1:=fB bel hb1
   have hbW1:=fB hbc hb1
   have HO1:=YJ (au HO.out hbw1)
   have HBX1:=YJ (HBX.out.below hbw1)
   have hfr:wr.heap.size≤(wr.alloc (.cells #[.slice ua um uc] 164)).heap.size:=by simp
   have HA1:=YJ (Ap.fresh HO.out (hf1.mono hfr))
   have HA2:=YJ (Ap.fresh HO.out (hf2.mono hfr))
   have HF1:=YJ (hf1.mono hbc.size)
   have HF2:=YJ (hf2.mono hbc.size)
   have HQ1:=YJ hq1
   have HQ2:=YJ hq2
   obtain⟨pa,pn,pc,rfl, -⟩:=hq1
   obtain⟨ca,cn,ccp,rfl, -⟩:=hq2
   clear HRd e0 ze HO HBX hf1 hf2 hfr
   go_wp2_with (at_builtin;refine wpList_append_own_at _ rfl _ _ 154 rfl W.heap.size 216 i0 (.agg #[.slice none 0 0, .slice none 0 0]) 2 48 Ik Hi0.out.1 Hi0.out.2.1 Hi0.out.2.2.1 Hi0.out.2.2.2 rfl (by decide) _ k _ rfl (HO1.out.alloc _) ⟨_,0,none⟩ 1 1 [.slice pa pn pc, .slice ca cn ccp] rfl rfl ?c1 ?c2 ?c3 ?c4 ?c5 ?_)
   case c1=>
    intro jj uu hu
    rw[jY,aq (by simp) jj]
    simpa using hu
   case c2=>intro v hv;simp at hv;rcases hv with rfl|rfl<;>rfl
   case c3=>unfold maxLen;omega
   case c4=>omega
   case c5=>simp;have:=hbW1.size;omega
   intro v' w4 hown4 hg4 _ hu4
   have hx:Below w1.heap.size w1 (w1.alloc (.cells #[.slice pa pn pc, .slice ca cn ccp] 216)):=bel
   have HO2:=YJ (au HO1.out hx)
   have hb4:Below W.heap.size W w4:=(fB hbW1 hx).grown hg4 (fB hbW1 hx).size (fun z hz=>by have:=(HO2.out.lt z hz).1;omega)
   have hO2:(w1.alloc (.cells #[.slice pa pn pc, .slice ca cn ccp] 216)).ownsRow W.heap.size 216 2 (.slice sa k sc) ((css.take k).map bp).length xs:=by rw[Htl.out];exact HO2.out
   have HB4:=YJ ((HBX1.out.below hx).snoc hO2.1 hg4 (hu4.imp id fun h=>h.trans (by simp)) (HQ1.out.below hx) (HQ2.out.below hx) HA1.out HA2.out HF1.out HF2.out)
   have H4:Hid (ParO w4 W.heap.size v' ((css.take (k+1)).map bp)):=YJ (by
    rw[Htk.out]
    exact⟨_,by rw[qaE,Htl.out];exact hown4,HB4.out⟩)
   clear hown4 hg4 hx HO2 hO2 HB4 HO1 HBX1 hu4 HQ1 HQ2 HA1 HA2
   go_wp2
   go_roundw
   case rel=>exact⟨k+1,by omega,by go_num,hb4,H4⟩
   simp[intOf];try omega
  ·obtain rfl:k=n:=by omega
   have g1:¬(k:Int)<(k:Int):=by omega
   have e:css.take k=css:=qaK (by omega)
   have HF:Hid (ParO wr W.heap.size (.slice sa k sc) (css.map bp)):=YJ (by have:=HR.out;rwa [e]at this)
   have HFs:=YJ (Fsh.own ho)
   clear HR ho hX HO HBX HX HOk
   go_wp2
   go_ret
   exact⟨_,rfl,hb,HF.out.slice,HF.out.sliceF⟩
theorem CN (ps qs:List Bod) (pv qv:Value) (d:Q3) (W:World) (hp:∀b∈ps,Ii b) (hq:∀b∈qs,Ii b) (hd:Cj d) (hl1:ps.length≤1000000) (hl2:qs.length≤1000000) (h1:PartV W pv ps) (h2:PartV W qv qs):
  Calls Tryz.prog 87 #[pv,qv,V3 d.1 d.2.1 d.2.2] W (Ret W (.bool (BT ps qs d))):=by
 have HP:=fun i (h:i<ps.length)=>YJ (hp _ (qaB h))
 have HQ:=fun i (h:i<qs.length)=>YJ (hq _ (qaB h))
 have Hhit:Hid (∀i j (hi:i<ps.length) (hj:j<qs.length),eS ps[i] qs[j] d=true→BT ps qs d=true):=YJ (fun i j hi hj h=>by
  unfold BT
  rw[ultj]
  exact⟨ps[i],qaB hi,by rw[ultj];exact⟨qs[j],qaB hj,h⟩⟩)
 have Hno:Hid ((∀i j (hi:i<ps.length) (hj:j<qs.length),eS ps[i] qs[j] d=false)→BT ps qs d=false):=YJ (fun h=>by
  unfold BT
  rw[ultp]
  intro a ha
  obtain⟨i,hi,rfl⟩:=qaJ ha
  rw[Bool.not_eq_true,ultp]
  intro b hb
  obtain⟨j,hj,rfl⟩:=qaJ hb
  rw[h i j hi hj]
  simp)
 have HSw:=fun i j (hi:i<ps.length) (hj:j<qs.length) p1 c1 p2 c2 W' (k1:Q4s W' p1 ps[i].1) (k2:Q4s W' c1 ps[i].2) (k3:Q4s W' p2 qs[j].1) (k4:Q4s W' c2 qs[j].2)=>YJ (FQ ps[i] qs[j] d p1 c1 p2 c2 W' (HP i hi).out.2 (HP i hi).out.1.2.2.2 (qaD (HP i hi).out.1.1 (by decide)) (qaD (HP i hi).out.1.2.1 (by decide)) (HQ j hj).out.1 hd k1 k2 k3 k4)
 obtain⟨d0,d1,d2⟩:=d
 simp only at HSw
 obtain⟨S,HS⟩:∃S:∀i j,i<ps.length→j<qs.length→Bool,Hid (S=fun i j hi hj=>eS ps[i] qs[j] (d0,d1,d2)):=⟨_,YJ rfl⟩
 have HSw':=fun i j (hi:i<ps.length) (hj:j<qs.length) p1 c1 p2 c2 W' (k1:Q4s W' p1 ps[i].1) (k2:Q4s W' c1 ps[i].2) (k3:Q4s W' p2 qs[j].1) (k4:Q4s W' c2 qs[j].2)=>YJ (show Calls Tryz.prog 131 #[.agg #[p1,c1], .agg #[p2,c2],V3 d0 d1 d2] W' (Ret W' (.bool (S i j hi hj))) by rw[HS.out];exact(HSw i j hi hj p1 c1 p2 c2 W' k1 k2 k3 k4).out)
 have Hhit':Hid (∀i j (hi:i<ps.length) (hj:j<qs.length),S i j hi hj=true→BT ps qs (d0,d1,d2)=true):=YJ (by rw[HS.out];exact Hhit.out)
 have Hno':Hid ((∀i j (hi:i<ps.length) (hj:j<qs.length),S i j hi hj=false)→BT ps qs (d0,d1,d2)=false):=YJ (by rw[HS.out];exact Hno.out)
 generalize BT ps qs (d0,d1,d2)=res at*
 clear HSw Hhit Hno HS HP HQ hp hq hd
 obtain⟨V,HV⟩:∃V,Hid ((W.alloc (.cells #[.int .i64 d0, .int .i64 d1, .int .i64 d2] 58)).alloc (.cells #[.int .i64 d0, .int .i64 d1, .int .i64 d2] 37)=V):=⟨_,YJ rfl⟩
 have hV:Below W.heap.size W V:=by rw[←HV.out];exact bel
 have HD:Hid (V.heap[W.heap.size+1]? =some (.cells #[.int .i64 d0, .int .i64 d1, .int .i64 d2] 37 (0,0))):=YJ (by rw[←HV.out];exact ai (by simp))
 obtain⟨a,n,c,rfl,hn,_,hx⟩:=h1
 obtain⟨a2,n2,c2,rfl,hn2,_,hx2⟩:=h2
 have HX:=YJ hx
 have HX2:=YJ hx2
 have Hn:=YJ hn
 have Hn2:=YJ hn2
 rw[hn]at hl1
 rw[hn2]at hl2
 clear hx hx2 hn hn2
 go_enter Tryz.func87,Tryz.ntmps87
 go_wp2
 rw[HV.out]
 go_loopw [21] (fun x wr=>∃k:Nat,k≤n∧x= .int .i64 k∧Below V.heap.size V wr∧Hid (∀i j (hi:i<ps.length) (hj:j<qs.length),i<k→S i j hi hj=false)) (fun x _=>n-(intOf x).toNat)
 case atStart=>exact⟨0,by omega,rfl,brf,YJ (fun i j _ _ h=>by omega)⟩
 case round=>
  obtain⟨k,hk,rfl,hb,Hd⟩:=hrel
  have HDr:=YJ ((hb.block _ (ah HD.out)).trans HD.out)
  by_cases hlt:k<n
  ·have g1:(k:Int)<(n:Int):=by omega
   have g2:(0:Int)≤(k:Int):=by omega
   have hil:k<ps.length:=by have:=Hn.out;omega
   obtain⟨b,off,rfl,hi4⟩:=HX.out (by omega)
   obtain⟨p,q,e0,e1,hq1,hq2⟩:=hi4 k hil
   have hWr:Below W.heap.size W wr:=hV.trans (hb.mono hV.size)
   have e0:=ab hWr e0
   have e1:=ab hWr e1
   have ze:=qaC wr _ e0
   simp only at ze
   have HQ1:=YJ (hq1.below hWr)
   have HQ2:=YJ (hq2.below hWr)
   obtain⟨pa,pn,pc,rfl, -⟩:=hq1
   obtain⟨ca,cn,ccp,rfl, -⟩:=hq2
   clear hi4
   obtain⟨wq,rfl⟩:∃wq:World,wq=wr:=⟨_,rfl⟩
   go_wp2
   go_loopw [27] (fun x wr=>∃j:Nat,j≤n2∧x= .int .i64 j∧Below wq.heap.size wq wr∧Hid (wr.heap[wq.heap.size]? =some (.cells #[.slice pa pn pc, .slice ca cn ccp] 216 (0,0)))∧Hid (∀m (hm:m<qs.length),m<j→S k m hil hm=false)) (fun x _=>n2-(intOf x).toNat)
   case atStart=>exact⟨0,by omega,rfl,bel,YJ (ai rfl),YJ (fun m _ h=>by omega)⟩
   case round=>
    clear e0 e1 ze
    obtain⟨j,hj,rfl,hbq,HB,Hdj⟩:=hrel
    have HDj:=YJ ((hbq.block _ (ah HDr.out)).trans HDr.out)
    by_cases hlj:j<n2
    ·have g3:(j:Int)<(n2:Int):=by omega
     have g4:(0:Int)≤(j:Int):=by omega
     have hjl:j<qs.length:=by have:=Hn2.out;omega
     obtain⟨b2,off2,rfl,hi5⟩:=HX2.out (by omega)
     obtain⟨p',q',f0,f1,hr1,hr2⟩:=hi5 j hjl
     have hWj:Below W.heap.size W wr:=hWr.trans (hbq.mono hWr.size)
     have f0:=ab hWj f0
     have f1:=ab hWj f1
     have zf:=qaC wr _ f0
     simp only at zf
     have HR1:=YJ (hr1.below hWj)
     have HR2:=YJ (hr2.below hWj)
     obtain⟨ra,rn,rc,rfl, -⟩:=hr1
     obtain⟨ta,tn,tc,rfl, -⟩:=hr2
     have HC:=fun W' (hW':Below wr.heap.size wr W')=>YJ ((HSw' k j hil hjl _ _ _ _ W' ((HQ1.out.below hbq).below hW') ((HQ2.out.below hbq).below hW') (HR1.out.below hW') (HR2.out.below hW')).out)
     have Hh:=YJ (Hhit'.out k j hil hjl)
     have Hst:Hid (S k j hil hjl=false→∀m (hm:m<qs.length),m<j+1→S k m hil hm=false):=YJ (fun h m hm hmj=>by
      by_cases e:m=j
      ·subst e;exact h
      ·exact Hdj.out m hm (by omega))
     obtain⟨b0,b1,bz⟩:=nm HB.out
     obtain⟨x0,x1,x2,xf,xz⟩:=NO HDj.out
     clear HX HX2 Hhit' Hno' HSw' Hd Hdj hi5
     generalize S k j hil hjl=s at*
     go_wp2_with fail
     refine((HC _ bel).out).mono ?_
     rintro e w2 ⟨rfl,hb2⟩
     have hb3:Below wr.heap.size wr w2:=fB bel hb2
     have HB2:=YJ ((hb3.block _ (ah HB.out)).trans HB.out)
     have hbq2:Below wq.heap.size wq w2:=hbq.trans (hb3.mono hbq.size)
     clear HC f0 f1 zf b0 b1 bz x0 x1 x2 xf xz hb2
     cases s with
     |true=>
      have HT:=YJ (Hh.out rfl)
      clear Hst Hh
      go_wp2
      go_ret
      exact⟨ay HT.out.symm,hWj.trans (hb3.mono hWj.size)⟩
     |false=>
      have HF:=YJ (Hst.out rfl)
      clear Hst Hh
      go_wp2
      go_roundw
      case rel=>exact⟨j+1,by omega,by go_num,hbq2,HB2,HF⟩
      simp[intOf];try omega
    ·obtain rfl:j=n2:=by omega
     have HN2:Hid (∀i m (hi:i<ps.length) (hm:m<qs.length),i<k+1→S i m hi hm=false):=YJ (fun i m hi hm h=>by
      by_cases e:i=k
      ·subst e;exact Hdj.out m hm (by have:=Hn2.out;omega)
      ·exact Hd.out i m hi hm (by omega))
     have hbV:Below V.heap.size V wr:=hb.trans (hbq.mono hb.size)
     clear HX HX2 Hhit' Hno' HSw' Hd Hdj
     go_wp2
     go_roundw
     case rel=>exact⟨k+1,by omega,by go_num,hbV,HN2⟩
     simp[intOf];try omega
  ·obtain rfl:k=n:=by omega
   have HT:=YJ (Hno'.out (fun i j hi hj=>Hd.out i j hi hj (by have:=Hn.out;omega)))
   clear HX HX2 Hhit' Hno' HSw' Hd
   go_wp2
   go_ret
   exact⟨ay HT.out.symm,hV.trans (hb.mono hV.size)⟩
end
end Go.Proofs.YtffbilcjhlncfaaGreatDoor
