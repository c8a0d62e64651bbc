/- texts: I6 IC GD. -/
import Derived.Test.YtffbilcjhlncfaaGreatDoorDQS17
namespace Go.Proofs.YtffbilcjhlncfaaGreatDoor
set_option maxHeartbeats 8000000
set_option linter.all false
section
open Go.RowKit Go.Shelf Go.Lib
set_option maxRecDepth 100000
attribute [local go_sem] Ext.cell Ext.frozen
theorem BL {w:World} {b o:Nat} {p:Addr} {u:Value} (h:b≠p.block):(w.setCell p u).cell? ⟨b,o,none⟩=w.cell? ⟨b,o,none⟩:=by
 simp only[World.cell?,qaH w p u b h]
theorem br {w:World} {v:Value} {xs:List Q4} {g:Nat} {a b:Value} {T:TypeId} (h:Q4s w v xs) (hg:w.heap[g]? =some (.cells #[a,b] T (0,0))) (ha:∀i,a≠ .int .i64 i) (hb:∀i,b≠ .int .i64 i) (o:Nat) (u:Value):Q4s (w.setCell ⟨g,o,none⟩ u) v xs:=by
 obtain⟨ad,n,c,e,hn,hc,hx⟩:=h
 refine⟨ad,n,c,e,hn,hc,fun h0=> ?_⟩
 obtain⟨k,off,e2,hi⟩:=hx h0
 have hbg:k≠g:=by
  rintro rfl
  have h1:=(hi 0 (by omega)).1
  rw[bq hg]at h1
  match off,h1 with
  |0,h1=>simp at h1;exact ha _ h1
  |1,h1=>simp at h1;exact hb _ h1
  |n+2,h1=>simp at h1
 refine⟨k,off,e2,fun i hil=> ?_⟩
 obtain⟨c0,c1,c2,c3⟩:=hi i hil
 exact⟨(BL hbg).trans c0,(BL hbg).trans c1,(BL hbg).trans c2,(BL hbg).trans c3⟩
def LI (w w':World) (bb:Nat):Prop:=∀g cells t,g≠bb→263≠t→w.heap[g]? =some (.cells cells t (0,0))→w'.heap[g]? =some (.cells cells t (0,0))
theorem SZ {w w':World} {bb base n:Nat} {v:Value} {xs:List Value} {cs:Array Value} (h:w.ownsRow base 261 4 v n xs) (hb:w.heap[bb]? =some (.cells cs 216 (0,0))) (hk:LI w w' bb):w'.ownsRow base 261 4 v n xs:=by
 refine⟨h.1, ?_⟩
 rcases h.2 with h1|⟨g,cap,cur,hv,hg,hh,r⟩
 ·exact .inl h1
 ·refine .inr ⟨g,cap,cur,hv,hg,hk g _ _ ?_ (by decide) hh,r⟩
  rintro rfl
  rw[hb]at hh
  injection hh with hh
  injection hh with _ ht
  exact absurd ht (by decide)
def BdS (V:World) (B bb:Nat) (ps cs:List Q4) (pv:Value) (w:World):Prop:=
 Below B V w∧B≤bb∧BAt w bb B pv cs∧w.ownsRow B 261 4 pv ps.length (ps.flatMap aH)
theorem BdS.lt {V:World} {B bb:Nat} {ps cs:List Q4} {pv:Value} {w:World} (h:BdS V B bb ps cs pv w):bb<w.heap.size:=by
 obtain⟨_,_,⟨cv,hB,_⟩,_⟩:=h;exact ah hB
theorem BdS.keep {V:World} {B bb:Nat} {ps cs:List Q4} {pv:Value} {w w':World} (h:BdS V B bb ps cs pv w) (hb:Below w.heap.size w w'):BdS V B bb ps cs pv w':=by
 have hz:=h.lt
 obtain⟨h1,h0,h2,h3⟩:=h
 exact⟨h1.trans (hb.mono (by omega)),h0,h2.keep hb,au h3 hb⟩
theorem BdS.at {V:World} {B bb:Nat} {ps cs:List Q4} {pv:Value} {w:World} (h:BdS V B bb ps cs pv w) (h0:0<ps.length):∃g cap,pv= .slice (some ⟨g,0,none⟩) ps.length cap∧Q4At w g 0 ps∧ps.length≤cap:=by
 obtain⟨a,n,c,e,hn,hc,hx⟩:=jz h.2.2.2
 obtain⟨g,cap,e2,_,_⟩:=fF h.2.2.2 h0
 obtain⟨b,off,e3,hi⟩:=hx (by omega)
 rw[e]at e2
 cases e2
 cases e3
 exact⟨g,c,e,hi,by omega⟩
theorem BdS.at2 {V:World} {B bb g k cap:Nat} {ps cs:List Q4} {w:World} (h:BdS V B bb ps cs (.slice (some ⟨g,0,none⟩) k cap) w) (h0:0<ps.length):Q4At w g 0 ps:=by
 obtain⟨g',cap',e,hat,_⟩:=h.at h0
 injection e with e1 e2 e3
 injection e1 with e1
 injection e1 with e1
 subst e1
 exact hat
theorem BdS.body {V:World} {B bb:Nat} {ps cs:List Q4} {pv:Value} {w:World} (h:BdS V B bb ps cs pv w):∃a n c,w.cell? ⟨bb,0,none⟩=some pv∧w.cell? ⟨bb,1,none⟩=some (.slice a n c)∧Q4s w (.slice a n c) cs∧n=cs.length:=by
 obtain⟨_,_,⟨cv,hB,ho⟩,_⟩:=h
 obtain⟨a,c,rfl⟩:=aT ho
 exact⟨a,_,c,(bq hB 0).trans rfl,(bq hB 1).trans rfl,jz ho,rfl⟩
theorem BdS.fsh {V:World} {B bb:Nat} {ps cs:List Q4} {pv cv:Value} {w:World} (h:BdS V B bb ps cs pv w) (hc:w.cell? ⟨bb,1,none⟩=some cv):Fsh B cv:=by
 obtain⟨_,_,⟨cv',hB,ho⟩,_⟩:=h
 rw[bq hB]at hc
 have e:cv'=cv:=by simpa using hc
 subst e
 exact Fsh.own ho
def MS (b:Bod) (W:World) (e:Ending) (w':World):Prop:=∃pv cv,e= .returned (.agg #[pv,cv])∧Below W.heap.size W w'∧Q4s w' pv b.1∧Q4s w' cv b.2∧Fsh W.heap.size pv∧Fsh W.heap.size cv
theorem Di (c:Q4) (V:World) (B bb:Nat) (ps cs:List Q4) (pv:Value) (w:World) (hn:cs.length≤1000000) (h:BdS V B bb ps cs pv w):
  Calls Tryz.prog 177 #[.pointer (some ⟨bb,0,none⟩),v4 c] w fun e w'=>e= .returned (.tuple #[])∧BdS V B bb ps (NW cs c) pv w'∧LI w w' bb∧w.heap.size≤w'.heap.size:=by
 have hz:=h.lt
 obtain⟨h1,h0,h2,h3⟩:=h
 refine(Ht c cs pv bb B w hn h2 (by omega)).mono ?_
 rintro e w' ⟨rfl,k1,k2,k3,k4⟩
 obtain⟨cv,hB,_⟩:=h2
 exact⟨rfl,⟨k3 _ h1 h0,h0,k1,SZ h3 hB k4⟩,k4,k2⟩
theorem GB (c:Q4) (V:World) (B bb:Nat) (ps cs:List Q4) (pv:Value) (a:Option Addr) (n cc:Nat) (w:World) (hps:∀p∈ps,okW p) (hc:okX c) (hl:ps.length≤1000000) (h:BdS V B bb ps cs pv w):
  Calls Tryz.prog 176 #[.agg #[pv, .slice a n cc],v4 c] w (Ret w (.bool (bG ps c))):=
 EE ps c pv a n cc w hps hc hl (jz h.2.2.2)
theorem EJ (ps:List Q4) (pv:Value) (w:World) (hps:∀p∈ps,bI p) (h0:0<ps.length) (hl:ps.length≤64) (hpv:Q4s w pv ps):
  Calls Tryz.prog 130 #[.agg #[pv]] w (MS (bp ps) w):=by
 obtain⟨i0,Hi0⟩:=qfT CW
 obtain⟨V,HV⟩:∃V,Hid ((w.alloc (.cells #[pv] 164)).alloc (.cells #[.slice none 0 0, .slice none 0 0] 216)=V):=⟨_,YJ rfl⟩
 have hV:Below w.heap.size w V:=by rw[←HV.out];exact bel
 obtain⟨bb,Hbb⟩:∃bb,Hid (w.heap.size+1+1=bb):=⟨_,YJ rfl⟩
 have HVs:Hid (V.heap.size=bb):=YJ (by rw[←Hbb.out, ←HV.out];simp)
 have hwb:w.heap.size+1<bb:=by have:=Hbb.out;omega
 obtain⟨V1,HV1⟩:∃V1,Hid (V.alloc (.cells #[.slice none 0 0, .slice none 0 0] 216)=V1):=⟨_,YJ rfl⟩
 have hb1:Below bb V V1:=by rw[←HV1.out, ←HVs.out];exact bel
 have HB1:Hid (V1.heap[bb]? =some (.cells #[.slice none 0 0, .slice none 0 0] 216 (0,0))):=YJ (by rw[←HV1.out, ←HVs.out];exact ai rfl)
 have hbw:∀wr,Below bb V wr→Below w.heap.size w wr:=fun wr h=>hV.trans (h.mono (by omega))
 have HO:Hid (V.heap[w.heap.size+1]? =some (.cells #[.slice none 0 0, .slice none 0 0] 216 (0,0))):=YJ (by rw[←HV.out];exact ai (by simp))
 have hps':∀p∈ps,okW p:=fun p hp=>DW (hps p hp)
 have HOk:=fun i (h:i<ps.length)=>YJ (DW (eV hps i h))
 have Hge:=fun i (h:i<ps.length)=>YJ (eN (ps:=ps) i h)
 have HP:=fun i j k (hi:i<ps.length) (hj:j<ps.length) (hk:k<ps.length) W'=>YJ (CI (fk ps i) (fk ps j) (fk ps k) W' (HOk i hi).out (HOk j hj).out (HOk k hk).out)
 have HX:=fun i j k (hi:i<ps.length) (hj:j<ps.length) (hk:k<ps.length) h=>YJ (De (fk ps i) (fk ps j) (fk ps k) (HOk i hi).out (HOk j hj).out (HOk k hk).out h)
 have Hno:=fun i k m=>YJ (xH ps i k m)
 have Hbar:=fun i k m=>YJ (vB ps i k m)
 have Hyes:=fun i k m=>YJ (vC ps i k m)
 have Hm:=fun i k=>YJ (BD ps i k)
 have Hk:=fun i=>YJ (BE ps i)
 have Hln:=fun i k m h1 h2 h3=>YJ (vD ps i k m h1 h2 h3)
 have H00:Hid (fX ps 0 0 0=[]):=YJ rfl
 have Hfin:Hid (fX ps ps.length 0 0=ct ps):=YJ (by
  unfold fX ct pN
  rw[kd,iz,qgd,qgd])
 have HOkX:Hid (∀c∈ct ps,okX c):=YJ (fun c hc=>by
  have hc':=(kT ps).2 c |>.1 hc
  exact IX (iD ps hps ps.length (qaA _) c hc').1)
 have HB:Hid (bp ps=(nf ps (ct ps),ct ps)):=YJ rfl
 have Hrl:Hid ((ct ps).length≤1000000):=YJ (by rw[←Hfin.out];have:=vD ps ps.length 0 0 hl (by omega) (by omega);omega)
 have HNd:=fun pv cv W h1 h2=>YJ (Dh ps (ct ps) pv cv W hps' HOkX.out h0 (by omega) Hrl.out h1 h2)
 rw[HB.out]
 generalize ct ps=rp at*
 generalize nf ps rp=nd at*
 generalize fX ps=acc at*
 have HPS:=YJ hps'
 have Hpv:=YJ hpv
 obtain⟨a,n,cc,rfl,hn,_,hx⟩:=hpv
 obtain⟨b0,off,rfl,hi⟩:=hx (by omega)
 have HI:=YJ hi
 have Hbw:=YJ hbw
 clear hx hi hps hps' hbw
 go_enter Tryz.func130,Tryz.ntmps130
 go_wp2
 rw[HV.out,HV1.out,Hbb.out]
 go_loopw [17] (fun x wr=>∃k:Nat,k≤n∧x= .int .i64 k∧Below bb V wr∧∃v1,Hid (wr.heap[bb]? =some (.cells #[v1, .slice none 0 0] 216 (0,0)))∧Hid (wr.ownsRow bb 261 4 v1 k ((ps.take k).flatMap aH))) (fun x _=>n-(intOf x).toNat)
 case atStart=>exact⟨0,by omega,rfl,hb1,_,HB1,YJ (qds _ _ _ _)⟩
 case round=>
  clear HB1 hb1
  obtain⟨k,hk,rfl,hb,v1,HBk,HOk1⟩:=hrel
  by_cases hlt:k<n
  ·have hkl:k<ps.length:=by omega
   obtain⟨e0,e1,e2,e3⟩:=(HI.out.below (Hbw.out _ hb)) k hkl
   have ze:=qaC wr _ e0
   simp only at ze
   have Htk:Hid ((ps.take (k+1)).flatMap aH=(ps.take k).flatMap aH++aH ps[k]):=YJ (by rw[qaI hkl,qgj];simp)
   have k0:wr.cell? ⟨bb,0,none⟩=some v1:=(bq HBk.out 0).trans rfl
   have kz:=ah HBk.out
   generalize ps[k]=x at*
   obtain⟨x0,x1,x2,x3⟩:=x
   simp only at e0 e1 e2 e3
   clear HP HX Hno Hbar Hyes Hm Hk Hln H00 Hfin HNd Hge
   obtain⟨va,vc,rfl⟩:=aT HOk1.out
   have hzz:=(Hbw.out _ hb).size
   go_wp2_with (at_builtin;refine wpList_append_own _ rfl _ _ 213 rfl bb 261 i0 (v4 (0,0,0,0)) 4 32 Rk Hi0.out.1 Hi0.out.2.1 Hi0.out.2.2.1 Hi0.out.2.2.2 rfl (by decide) _ k _ rfl ((HOk1.out.alloc _).alloc _) ⟨_,0,none⟩ 1 1 [.int .i64 x0, .int .i64 x1, .int .i64 x2, .int .i64 x3] rfl rfl ?c1 ?c2 ?c3 ?c4 ?c5 ?_)
   case c1=>
    intro jj uu hu
    rw[jY,aq (by simp) jj]
    simpa using hu
   case c2=>intro v hv;simp at hv;rcases hv with rfl|rfl|rfl|rfl<;>rfl
   case c3=>unfold maxLen;omega
   case c4=>omega
   case c5=>simp;omega
   intro v' w4 hown4 hg4 _
   have hbx:Below wr.heap.size wr ((wr.alloc (.cells #[.int .i64 x0, .int .i64 x1, .int .i64 x2, .int .i64 x3] 190)).alloc (.cells #[.int .i64 x0, .int .i64 x1, .int .i64 x2, .int .i64 x3] 261)):=bel
   have hne:some bb≠(Value.slice va k vc).ownBlock:=fun e=>aG HOk1.out HBk.out (by decide) e.symm
   have HB4:Hid (w4.heap[bb]? =some (.cells #[.slice va k vc, .slice none 0 0] 216 (0,0))):=YJ ((hg4.block bb (by simp;omega) hne).trans ((hbx.block _ kz).trans HBk.out))
   have hb4:Below bb V w4:=(hb.trans (hbx.mono (by omega))).grown hg4 (by have:=hbx.size;omega) (fun j hj=>(HOk1.out.lt j hj).1)
   obtain⟨ua,uc,rfl⟩:=aT hown4
   have Hown4:=YJ hown4
   clear hown4 hg4 hbx hne HBk HOk1 k0 kz e0 e1 e2 e3 ze hb
   have k0:w4.cell? ⟨bb,0,none⟩=some (.slice va k vc):=(bq HB4.out 0).trans rfl
   have kf:=aC HB4.out
   have kz:=ah HB4.out
   go_wp2
   go_roundw
   case rel=>
    refine⟨k+1,by omega,by go_num,hb4.setCell (qaA _) _,_,YJ (by have:=Tu HB4.out 0 (.slice ua (k+1) uc);simpa using this),YJ ?_⟩
    rw[Htk.out]
    refine aF (by simpa [aH]using Hown4.out) _ _ (fun e=>aG Hown4.out HB4.out (by decide) e.symm)
   case measure=>simp[intOf];try omega
  ·obtain rfl:k=n:=by omega
   have HS:Hid (BdS V bb bb ps (acc 0 0 0) v1 wr):=YJ (by
    rw[H00.out]
    refine⟨hb,qaA _,⟨_,HBk.out,qds _ _ _ _⟩, ?_⟩
    have:=HOk1.out
    rw[qaK (by omega)]at this
    rwa [hn])
   obtain⟨g,cap,rfl,hat,hcap⟩:=HS.out.at h0
   rw[hn]at hcap
   have k0:wr.cell? ⟨bb,0,none⟩=some (.slice (some ⟨g,0,none⟩) ps.length cap):=(bq HBk.out 0).trans rfl
   have kz:=ah HBk.out
   rw[hn]at k0 HS
   clear HBk HOk1 hb hat HI Hpv
   have hn0:0<k:=by omega
   rw[hn]at Hfin hl h0
   have Hn:=YJ hn
   clear hn
   go_wp2
   go_loopw [40] (fun x wr=>∃i:Nat,i≤k∧x= .int .i64 i∧Hid (BdS V bb bb ps (acc i 0 0) (.slice (some ⟨g,0,none⟩) k cap) wr)) (fun x _=>k-(intOf x).toNat)
   case atStart=>exact⟨0,by omega,rfl,HS⟩
   case round=>
    clear HS k0 kz
    obtain⟨i,hi,rfl,HS⟩:=hrel
    obtain⟨ca,cn,ccp,y0,y1,hcq,hcn⟩:=HS.out.body
    have kz:=HS.out.lt
    by_cases hli:i<k
    ·have g1:(i:Int)<(k:Int):=by omega
     have hil:i<ps.length:=by rw[Hn.out];exact hli
     have hat:=HS.out.at2 (by omega)
     obtain⟨e0,e1,e2,e3⟩:=hat i hil
     rw[(Hge i hil).out]at e0 e1 e2 e3
     have zg:=qaC wr _ e0
     simp only at zg
     obtain⟨P,HPe⟩:∃P,Hid (fk ps i=P):=⟨_,YJ rfl⟩
     rw[HPe.out]at e0 e1 e2 e3
     obtain⟨P0,P1,P2,P3⟩:=P
     simp only[qfW]at e0 e1 e2 e3
     obtain⟨wo,rfl⟩:∃wo:World,wo=wr:=⟨_,rfl⟩
     have hci:cap≠i:=by omega
     clear hat hcq
     go_wp2
     go_loopw [50] (fun x wr=>∃j:Nat,j≤i∧x= .int .i64 j∧Hid (BdS V bb bb ps (acc i j 0) (.slice (some ⟨g,0,none⟩) k cap) wr)∧wo.heap.size<wr.heap.size∧Hid (wr.heap[wo.heap.size]? =some (.cells #[.int .i64 P0, .int .i64 P1, .int .i64 P2, .int .i64 P3] 261 (0,0)))) (fun x _=>i-(intOf x).toNat)
     case atStart=>exact⟨0,by omega,rfl,YJ (HS.out.keep bel),by simp,YJ (ai rfl)⟩
     case round=>
      have zo:=HS.out.lt
      clear HS y0 y1 kz e0 e1 e2 e3 zg
      obtain⟨j,hj,rfl,HS,hsz,HPb⟩:=hrel
      obtain⟨ca,cn,ccp,y0,y1,hcq,hcn⟩:=HS.out.body
      have kz:=HS.out.lt
      by_cases hlj:j<i
      ·have g2:(j:Int)<(i:Int):=by omega
       have hjl:j<ps.length:=by omega
       have hat:=HS.out.at2 (by omega)
       obtain⟨e0,e1,e2,e3⟩:=hat j hjl
       rw[(Hge j hjl).out]at e0 e1 e2 e3
       have zg:=qaC wr _ e0
       simp only at zg
       obtain⟨Q,HQe⟩:∃Q,Hid (fk ps j=Q):=⟨_,YJ rfl⟩
       rw[HQe.out]at e0 e1 e2 e3
       obtain⟨Q0,Q1,Q2,Q3⟩:=Q
       simp only[qfW]at e0 e1 e2 e3
       obtain⟨wq,rfl⟩:∃wq:World,wq=wr:=⟨_,rfl⟩
       have hcj:cap≠j:=by omega
       clear hat hcq
       go_wp2
       go_loopw [60] (fun x wr=>∃m:Nat,m≤j∧x= .int .i64 m∧Hid (BdS V bb bb ps (acc i j m) (.slice (some ⟨g,0,none⟩) k cap) wr)∧wq.heap.size<wr.heap.size∧Hid (wr.heap[wo.heap.size]? =some (.cells #[.int .i64 P0, .int .i64 P1, .int .i64 P2, .int .i64 P3] 261 (0,0)))∧Hid (wr.heap[wq.heap.size]? =some (.cells #[.int .i64 Q0, .int .i64 Q1, .int .i64 Q2, .int .i64 Q3] 261 (0,0)))) (fun x _=>j-(intOf x).toNat)
       case atStart=>exact⟨0,by omega,rfl,YJ (HS.out.keep bel),by simp,YJ ((aB (ah HPb.out)).trans HPb.out),YJ (ai rfl)⟩
       case round=>
        have zq:=HS.out.lt
        clear HS y0 y1 kz e0 e1 e2 e3 zg HPb
        obtain⟨m,hm,rfl,HS,hsq,HPb,HQb⟩:=hrel
        obtain⟨ca,cn,ccp,y0,y1,hcq,hcn⟩:=HS.out.body
        have kz:=HS.out.lt
        by_cases hlm:m<j
        ·have g3:(m:Int)<(j:Int):=by omega
         have hml:m<ps.length:=by omega
         have hat:=HS.out.at2 (by omega)
         obtain⟨e0,e1,e2,e3⟩:=hat m hml
         rw[(Hge m hml).out]at e0 e1 e2 e3
         have zg:=qaC wr _ e0
         simp only at zg
         have HPi:=fun W'=>YJ ((HP i j m hil hjl hml W').out)
         have HXi:=YJ (HX i j m hil hjl hml)
         have Hno':=YJ ((Hno i j m).out)
         have Hbar':=YJ ((Hbar i j m).out)
         have Hyes':=YJ ((Hyes i j m).out)
         have hln:=(Hln i j m (by omega) (by omega) (by omega)).out
         clear HP HX Hno Hbar Hyes Hln Hge hat hcq
         rw[HPe.out,HQe.out]at HPi HXi Hno' Hbar' Hyes'
         generalize fk ps m=S at*
         generalize acc i j m=A at*
         obtain⟨S0,S1,S2,S3⟩:=S
         simp only[qfW]at e0 e1 e2 e3
         have HAl:=fun R pv a n cc W' (hR:okX R) h=>YJ (GB R V bb bb ps A pv a n cc W' HPS.out hR (by rw[Hn.out];omega) h)
         generalize lD (P0,P1,P2,P3) (Q0,Q1,Q2,Q3) (S0,S1,S2,S3)=R at*
         generalize okB (P0,P1,P2,P3) (Q0,Q1,Q2,Q3) (S0,S1,S2,S3)=ok at*
         have HAR:=fun pv a n cc W' hR h=>YJ ((HAl R pv a n cc W' hR h).out)
         generalize bG ps R=al at*
         clear HAl
         obtain⟨R0,R1,R2,R3⟩:=R
         obtain⟨p0,p1,p2,p3,_,pz⟩:=am HPb.out
         obtain⟨q0,q1,q2,q3,_,qz⟩:=am HQb.out
         obtain⟨wz,rfl⟩:∃wz:World,wz=wr:=⟨_,rfl⟩
         go_wp2_with fail
         refine((HPi _).out).mono ?_
         rintro e w2 ⟨rfl,hb2⟩
         have hbx:Below wz.heap.size wz w2:=fB bel hb2
         have HS2:=YJ (HS.out.keep hbx)
         have HP2:=YJ ((hbx.block _ pz).trans HPb.out)
         have HQ2:=YJ ((hbx.block _ qz).trans HQb.out)
         have hs2:=hbx.size
         clear HPi HS HPb HQb hbx hb2 e0 e1 e2 e3 zg p0 p1 p2 p3 pz q0 q1 q2 q3 qz y0 y1 kz
         obtain⟨ca,cn,ccp,y0,y1,hcq,hcn⟩:=HS2.out.body
         have kz:=HS2.out.lt
         clear hcq
         obtain⟨X,HXw⟩:∃X,Hid (w2.alloc (.cells #[.int .i64 R0, .int .i64 R1, .int .i64 R2, .int .i64 R3] 263)=X):=⟨_,YJ rfl⟩
         have hbX:Below w2.heap.size w2 X:=by rw[←HXw.out];exact bel
         have HSX:=YJ (HS2.out.keep hbX)
         have HPX:=YJ ((hbX.block _ (ah HP2.out)).trans HP2.out)
         have HQX:=YJ ((hbX.block _ (ah HQ2.out)).trans HQ2.out)
         have HRX:Hid (X.heap[w2.heap.size]? =some (.cells #[.int .i64 R0, .int .i64 R1, .int .i64 R2, .int .i64 R3] 263 (0,0))):=YJ (by rw[←HXw.out];exact ai rfl)
         have hsX:w2.heap.size<X.heap.size:=ah HRX.out
         cases ok with
         |false=>
          have he:=YJ (Hno'.out (by first|trivial|rfl))
          clear Hno' Hbar' Hyes' HAR HXi
          go_wp2
          rw[HXw.out]
          go_roundw
          case rel=>exact⟨m+1,by omega,by go_num,YJ (by rw[he.out];exact HSX.out),by omega,HPX,HQX⟩
          simp[intOf];try omega
         |true=>
          have hRok:=HXi.out (by first|trivial|rfl)
          have HA2:=fun pv a n cc W' h=>YJ ((HAR pv a n cc W' hRok h).out)
          have HW:=fun W' h=>YJ (Di (R0,R1,R2,R3) V bb bb ps A (.slice (some ⟨g,0,none⟩) k cap) W' (by omega) h)
          clear HAR HXi hRok Hno' HSX HPX HQX HRX hbX
          go_wp2_with fail
          refine((HA2 _ _ _ _ _ (HS2.out.keep bel)).out).mono ?_
          rintro e w3 ⟨rfl,hb3⟩
          have hb3':Below w2.heap.size w2 w3:=fB bel hb3
          have HS3:=YJ (HS2.out.keep hb3')
          have HP3:=YJ ((hb3'.block _ (ah HP2.out)).trans HP2.out)
          have HQ3:=YJ ((hb3'.block _ (ah HQ2.out)).trans HQ2.out)
          have HR3:Hid (w3.heap[w2.heap.size]? =some (.cells #[.int .i64 R0, .int .i64 R1, .int .i64 R2, .int .i64 R3] 263 (0,0))):=YJ ((hb3.block _ (by simp)).trans (ai rfl))
          have hs3:=hb3'.size
          have hzb:=HS2.out.lt
          clear HA2 HS2 HP2 HQ2 hb3 hb3' y0 y1 kz HXw
          obtain⟨r0,r1,r2,r3,_,rz⟩:=am HR3.out
          cases al with
          |false=>
           have he:=YJ (Hbar'.out (by first|trivial|rfl) (by first|trivial|rfl))
           clear Hbar' Hyes' HW
           go_wp2
           go_roundw
           case rel=>exact⟨m+1,by omega,by go_num,YJ (by rw[he.out];exact HS3.out),by omega,HP3,HQ3⟩
           simp[intOf];try omega
          |true=>
           have he:=YJ (Hyes'.out (by first|trivial|rfl) (by first|trivial|rfl))
           have HW3:=YJ ((HW w3 HS3.out).out)
           clear Hbar' Hyes' HW HS3
           go_wp2_with fail
           refine(HW3.out).mono ?_
           rintro e w4 ⟨rfl,hS4,hK4,hs4⟩
           have HS4:=YJ hS4
           have HK4:=YJ hK4
           clear hS4 hK4 HW3
           go_wp2
           go_roundw
           case rel=>exact⟨m+1,by omega,by go_num,YJ (by rw[he.out];exact HS4.out),by omega,YJ (HK4.out _ _ _ (by omega) (by decide) HP3.out),YJ (HK4.out _ _ _ (by omega) (by decide) HQ3.out)⟩
           simp[intOf];try omega
        ·obtain rfl:m=j:=by omega
         have he:=YJ ((Hm i m).out)
         go_wp2
         go_roundw
         case rel=>exact⟨m+1,by omega,by go_num,YJ (by rw[←he.out];exact HS.out),by omega,HPb⟩
         simp[intOf];try omega
      ·obtain rfl:j=i:=by omega
       have he:=YJ ((Hk j).out)
       go_wp2
       go_roundw
       case rel=>exact⟨j+1,by omega,by go_num,YJ (by rw[←he.out];exact HS.out)⟩
       simp[intOf];try omega
    ·obtain rfl:i=k:=by omega
     rw[Hfin.out]at HS
     obtain⟨da,dn,dc,z0,z1,hdq,rfl⟩:=HS.out.body
     have HN:=YJ ((HNd _ _ wr (jz HS.out.2.2.2) hdq).out)
     have hwb2:Below bb V wr:=HS.out.1
     have HF2:=YJ (Fsh.mono (HS.out.fsh z1) (show w.heap.size≤bb by omega))
     have HO2:=YJ ((hwb2.block _ hwb).trans HO.out)
     have hww:=Hbw.out _ hwb2
     clear HP HX Hno Hbar Hyes Hm Hk Hln HNd Hge hdq hcq y0 y1 HS HV1 HV hV HO hwb2
     go_wp2_with fail
     refine(HN.out).mono ?_
     rintro e w5 ⟨pv',cv',rfl,hb5,hq1,hq2,hf1,rfl⟩
     have HF1:=YJ (hf1.mono hww.size)
     have HO5:=YJ ((hb5.block _ (ah HO2.out)).trans HO2.out)
     have hw5:=fB hww hb5
     have HQ1:=YJ hq1
     have HQ2:=YJ hq2
     obtain⟨fa,fn,fc,rfl, -⟩:=hq1
     clear hf1 hq2
     clear HN hb5 HO2 hww z0 z1
     have o0:w5.cell? ⟨w.heap.size+1,0,none⟩=some (.slice none 0 0):=(bq HO5.out 0).trans rfl
     have o1:w5.cell? ⟨w.heap.size+1,1,none⟩=some (.slice none 0 0):=(bq HO5.out 1).trans rfl
     have of:=aC HO5.out
     have oz:=ah HO5.out
     go_wp2
     have HO6:(w5.setCell ⟨w.heap.size+1,0,none⟩ (.slice fa fn fc)).heap[w.heap.size+1]? =some (.cells #[.slice fa fn fc, .slice none 0 0] 216 (0,0)):=by have:=Tu HO5.out 0 (.slice fa fn fc);simpa using this
     refine bodyPost_ret (v:= .agg #[.slice fa fn fc, .slice da _ dc]) (by simp[results,Tryz.results130,go_sem,o0,o1,oz]) rfl ⟨_,_,rfl, ?_, ?_, ?_,HF1.out,HF2.out⟩
     ·iterate 2 (refine qga ?_ (by first|exact qaA _|exact Nat.le_succ _|(simp;done)|(simp;omega)) _)
      exact hw5
     ·exact br (br HQ1.out HO5.out (fun _ h=>by cases h) (fun _ h=>by cases h) _ _) HO6 (fun _ h=>by cases h) (fun _ h=>by cases h) _ _
     ·exact br (br HQ2.out HO5.out (fun _ h=>by cases h) (fun _ h=>by cases h) _ _) HO6 (fun _ h=>by cases h) (fun _ h=>by cases h) _ _
def MT (pv0 cv0:Value) (r:Bod×Bool) (W:World) (e:Ending) (w':World):Prop:=∃pv cv,e= .returned (.tuple #[.agg #[pv,cv], .bool r.2])∧Below W.heap.size W w'∧Q4s w' pv r.1.1∧Q4s w' cv r.1.2∧(pv=pv0∨Fsh W.heap.size pv)∧(cv=cv0∨Fsh W.heap.size cv)
end
section
open Go.RowKit
section
variable {P:Program} {ops:Array Oper} {md:Region.Mode} {Q:Exit→Act→World→Prop}
def EF (m:Nat) (Em:World→World→Prop) (i:Nat) (w w':World):Prop:=if i=m then Em w w' else Below w.heap.size w w'
theorem EF.refl {m:Nat} {Em:World→World→Prop} (h:∀w,Em w w) (i:Nat) (w:World):EF m Em i w w:=by
 unfold EF;split
 ·exact h w
 ·exact brf
theorem EF.of {m:Nat} {Em:World→World→Prop} {i:Nat} {w w':World} (h:i≠m) (hb:Below w.heap.size w w'):EF m Em i w w':=by unfold EF;rw[if_neg h];exact hb
def Jo (md:Region.Mode) (ops:Array Oper) (ci:List Nat) (m:Nat) (D:List Nat):Bool:=ci.all fun i=>decide (i=m) || D.all fun j=> !Region.waitsFor md ops i j
def LO (P:Program) (md:Region.Mode) (ops:Array Oper) (R:Nat→Value→World→Prop) (w0:World) (m:Nat) (Em:World→World→Prop) (Q:Exit→Act→World→Prop) (i:Nat) (vals:Nat→Value) (a:Act):Prop:=
 ∀w',Below w0.heap.size w0 w'→(∀j,Region.waitsFor md ops i j=true→R j (vals j) w')→
  ∃o d,ops[i]? =some o∧o.dst=some d∧d<a.tmps.size∧if Region.wanted o (yielded ops a.tmps)=true then o.wp P a w' (fun x w''=>∃v,x=a.put o.dst v∧EF m Em i w' w''∧R i v w'') (NoPanic Q)else R i undef w'
theorem DZ {m:Nat} {D:List Nat} {Em:World→World→Prop} {ci:List Nat} {t0:Nat} {ts:List Nat} (hB:kP md ops ci t0 ts=true) {R:Nat→Value→World→Prop} {a0:Act} {w0:World}
  (hfr:Jo md ops ci m D=true) (hEr:∀w,Em w w) (hEb:∀w w',Below w0.heap.size w0 w→Em w w'→Below w0.heap.size w0 w') (hst:∀i v w w',Below w.heap.size w w'→R i v w→R i v w') (hsm:∀i v w w',i ∉ D→Region.waitsFor md ops i m=false→i≠m→Em w w'→R i v w→R i v w')
  (hob:∀i∈ci,∀vals,LO P md ops R w0 m Em Q i vals (frm ops a0 vals (bw ops ci i)))
  (hfin:∀vals w',Below w0.heap.size w0 w'→(∀i∈ci,i ∉ D→R i (vals i) w')→wpList P ops (NoPanic Q) (bu ops (t0::ts)) (frm ops a0 vals (bw ops ci ops.size)) w'):
  ∀(f:Nat) (listed:Array Bool) (vals:Nat→Value) (w:World),Inv md ops (t0::ts) listed→(ci.filter fun i=> !listed.getD i false).length=f→Below w0.heap.size w0 w→
   (∀j,listed.getD j false=true→(listed.getD m false=true→j ∉ D)→R j (vals j) w)→wpAny P md ops (NoPanic Q) (f+(ts.length+1)) listed (frm ops a0 vals listed) w:=by
 simp only[kP,qaF,qfV]at hB
 obtain⟨⟨⟨⟨⟨⟨⟨⟨⟨⟨⟨hsel,hd⟩,hnd⟩,_⟩,htl⟩,hsz⟩,hs⟩,hc⟩,hdis⟩,hcov⟩,hop⟩,hfo⟩:=hB
 have hit:∀i∈ci,i ∉ t0::ts:=fun i hi=>by have:=alsi.1 hdis i hi;simpa using this
 have hcv:∀j,j<ops.size→j∈ci∨j∈t0::ts:=fun j hj=>by have:=alsi.1 hcov j (ultv.2 hj);simpa using this
 have hops:∀i∈ci,∃o,ops[i]? =some o∧(∀e∈o.after,Region.binds md e=true→e.on<i∧e.on∈ci)∧(∀j,j<ops.size→j∈t0::ts∨Region.waitsFor md ops i j=true∨∀d,aM ops j=some d→d ∉ o.looksAt ops):=fun i hi=>by
  have h:=alsi.1 hop i hi
  cases ho:ops[i]? with
  |none=>rw[ho]at h;cases h
  |some o=>
   rw[ho]at h
   simp only[qaF]at h
   obtain⟨he,hl⟩:=h
   refine⟨o,rfl,fun e hem hb=> ?_,fun j hj=> ?_⟩
   ·have:=Array.all_eq_true'.1 he e hem
    simpa [hb]using this
   ·have:=alsi.1 hl j (ultv.2 hj)
    simp only[qgf]at this
    rcases this with(h|h)|h
    ·exact .inl (by simpa using h)
    ·exact .inr (.inl h)
    ·refine .inr (.inr fun d hd hm=> ?_)
     rw[hd]at h
     simp[hm]at h
 intro f
 induction f with
 |zero=>
  intro listed vals w inv hcnt hb hR
  have hall:∀i∈ci,listed.getD i false=true:=fun i hi=>by
   have:=List.filter_eq_nil_iff.1 (alto.1 hcnt) i hi
   simpa using this
  have hL:listed=bw ops ci ops.size:=by
   have hsz2:(bw ops ci ops.size).size=ops.size:=by simp[bw]
   apply Array.ext (by rw[inv.size,hsz2])
   intro j h1 h2
   have e1:listed[j]=listed.getD j false:=by simp[Array.getD,h1]
   have e2:(bw ops ci ops.size)[j]=(bw ops ci ops.size).getD j false:=by simp[Array.getD,h2]
   have hj:j<ops.size:=by rw[←inv.size];exact h1
   rw[e1,e2,bg]
   rcases hcv j hj with h|h
   ·rw[hall j h];simp[hj,h]
   ·rw[getD_both (inv.tail j h hj)]
    have:j ∉ ci:=fun hh=>hit j hh h
    simp[this]
  rw[qfW]
  subst hL
  exact dg (t0::ts) _ _ w hfo (hfin vals w hb fun i hi hD=>hR i (hall i hi) (fun _=>hD))
 |succ f ih=>
  intro listed vals w inv hcnt hb hR
  have hlt:∀i∈ci,i<listed.size:=fun i hi=>by
   obtain⟨o,ho,_⟩:=hops i hi
   rw[inv.size];exact(alsl.1 ho).1
  have hun:∃i∈ci,listed.getD i true=false:=by
   cases hfl:(ci.filter fun i=> !listed.getD i false)with
   |nil=>rw[hfl]at hcnt;cases hcnt
   |cons i l=>
    have hi:i∈ci.filter fun i=> !listed.getD i false:=by rw[hfl];simp
    obtain⟨h1,h2⟩:=alsm.1 hi
    exact⟨i,h1,getD_in (hlt i h1) (by simpa using h2)⟩
  have hex:∀n i,i≤n→i∈ci→listed.getD i true=false→∃k,k∈Region.ready md ops listed:=by
   intro n
   induction n with
   |zero=>
    intro i hin hi hu
    obtain⟨o,ho,he,_⟩:=hops i hi
    exact⟨i,mem_ready.2 ⟨hu,o,ho,fun e hem hb=>by have:=(he e hem hb).1;omega⟩⟩
   |succ n ihn=>
    intro i hin hi hu
    obtain⟨o,ho,he,_⟩:=hops i hi
    by_cases hall:∀e∈o.after,Region.binds md e=true→listed.getD e.on false=true
    ·exact⟨i,mem_ready.2 ⟨hu,o,ho,hall⟩⟩
    ·simp only[Classical.not_forall]at hall
     obtain⟨e,hem,hb,hn⟩:=hall
     obtain⟨h1,h2⟩:=he e hem hb
     exact ihn e.on (by omega) h2 (getD_in (hlt _ h2) (by simpa using hn))
  obtain⟨i1,hi1,hu1⟩:=hun
  obtain⟨k,hk⟩:=hex i1 i1 (qaA _) hi1 hu1
  rw[show f+1+(ts.length+1)=(f+(ts.length+1))+1 by omega]
  refine⟨fun h0=>(by rw[h0]at hk;cases hk),fun i hi=> ?_⟩
  have htt:∀t∈t0::ts,listed.getD t true=false:=fun t ht=>inv.tail t ht (by have:=alsi.1 htl t ht;simpa using this)
  have hnt:i ∉ t0::ts:=fun h=>by
   rcases alsk.1 h with rfl|h
   ·exact dm inv ci hs ⟨i1,hi1,hu1⟩ hi
   ·exact Bd htt t0 ts (fun _ h=>h) hc i h hi
  obtain⟨hu,o,ho,hall⟩:=mem_ready.1 hi
  have hic:i∈ci:=by
   rcases hcv i (alsl.1 ho).1 with h|h
   ·exact h
   ·exact absurd h hnt
  obtain⟨o',ho',he,hlk⟩:=hops i hic
  obtain rfl:o=o':=qgb (ho.symm.trans ho')
  have hdep:∀j,Region.waitsFor md ops i j=true→listed.getD j false=true∧j<i∧j∈ci:=fun j hj=>by
   obtain⟨oj,hoj,e,hem,hb',hon⟩:=Region.waitsFor_spec hj
   obtain rfl:o=oj:=qgb (ho.symm.trans hoj)
   subst hon
   exact⟨hall e hem hb',he e hem hb'⟩
  obtain⟨o2,d,ho2,hdst,hds,hwp⟩:=hob i hic vals w hb (fun j hj=>hR j (hdep j hj).1 (fun hm=>by
   have h1:=alsi.1 hfr i hic
   rw[qgf]at h1
   rcases h1 with h1|h1
   ·have h1:i=m:=by simpa using h1
    subst h1
    rw[getD_both hu]at hm;cases hm
   ·intro hjD
    have:=alsi.1 h1 j hjD
    rw[hj]at this;cases this))
  obtain rfl:o=o2:=qgb (ho.symm.trans ho2)
  have hag:∀d∈o.looksAt ops,∀j,aM ops j=some d→listed.getD j false=(bw ops ci i).getD j false:=(fun d hd j hj=>by
   have hjs:j<ops.size:=by
    rcases Nat.lt_or_ge j ops.size with h|h
    ·exact h
    ·unfold aM at hj;rw[Array.getElem?_eq_none h]at hj;cases hj
   rw[bg]
   rcases hlk j hjs with h|h|h
   ·rw[getD_both (htt j h)]
    have:j ∉ ci:=fun hh=>hit j hh h
    simp[this]
   ·obtain⟨h1,h2,h3⟩:=hdep j h
    rw[h1];simp[hjs,h2,h3]
   ·exact absurd hd (h d hj))
  have hex2:execOp (frm ops a0 vals listed).eval o=execOp (frm ops a0 vals (bw ops ci i)).eval o:=gA o (fun cs b=>Region.noSelect_spec hsel i o cs b ho) hag
  have hwn:=eC (a0:=a0) (vals:=vals) o hag
  have hdo:aM ops i=o.dst:=by simp[aM,ho]
  have key:∀v w'',EF m Em i w w''→R i v w''→wpAny P md ops (NoPanic Q) (f+(ts.length+1)) (listed.setIfInBounds i true) ((frm ops a0 vals listed).put o.dst v) w'':=fun v w'' hbw hRv=>by
   rw[←hdo,dU hd (hlt i hic)]
   refine ih _ _ w'' (inv.set hi hnt) ?_ ?_ (fun j hj hjm=> ?_)
   ·have:=fy hnd hic hu
    omega
   ·unfold EF at hbw
    split at hbw
    ·exact hEb _ _ hb hbw
    ·exact fB hb hbw
   ·by_cases hji:j=i
    ·subst hji;simpa [upd]using hRv
    ·rw[getD_set_ne false (fun h=>hji h.symm)]at hj
     simp only[upd,if_neg hji]
     unfold EF at hbw
     split at hbw
     ·rename_i him
      subst him
      have hjD:j ∉ D:=hjm (by simp[Array.getD,hlt i hic])
      refine hsm j _ _ _ hjD ?_ hji hbw (hR j hj (fun _=>hjD))
      cases hw:Region.waitsFor md ops j i with
      |false=>rfl
      |true=>
       obtain⟨oj,hoj,e,hem,hb',hon⟩:=Region.waitsFor_spec hw
       have:=inv.closed j oj hoj hj e hem hb'
       rw[hon,getD_both hu]at this;cases this
     ·rename_i him
      rw[getD_set_ne false him]at hjm
      exact hst j _ _ _ hbw (hR j hj hjm)
  unfold wpOp
  simp only[ho]
  rw[hwn]
  split
  ·rename_i hw
   rw[if_pos hw]at hwp
   refine .inl (Oper.wp_mono ?_ (iB hex2 hdst hds hwp))
   rintro x w'' ⟨v,rfl,hbw,hRv⟩
   exact key v w'' hbw hRv
  ·rename_i hw
   rw[if_neg hw]at hwp
   exact key undef w (EF.refl hEr _ _) hwp
def Ia (P:Program) (md:Region.Mode) (ops:Array Oper) (R:Nat→Value→World→Prop) (w0:World) (m:Nat) (Em:World→World→Prop) (Q:Exit→Act→World→Prop) (F:(Nat→Value)→Act→Prop):List Nat→(Nat→Value)→Act→Prop
 | [],vals,a=>F vals a
 |i::l,vals,a=>LO P md ops R w0 m Em Q i vals a∧∀v,Ia P md ops R w0 m Em Q F l (upd vals i v) (a.put (aM ops i) v)
theorem WX {m:Nat} {Em:World→World→Prop} {ci:List Nat} {R:Nat→Value→World→Prop} {a0:Act} {w0:World} {F:(Nat→Value)→Act→Prop} (hd:gZ ops=true) (hp:ci.Pairwise (· < ·)) (hlt:∀i∈ci,i<ops.size)
  (hdep:∀i∈ci,∀j,Region.waitsFor md ops i j=true→j<i∧j∈ci):
  ∀(l pre:List Nat) (vals0:Nat→Value),ci=pre++l→Ia P md ops R w0 m Em Q F l vals0 (frm ops a0 vals0 (bw ops pre ops.size))→
   (∀i∈l,∀vals:Nat→Value,(∀j∈pre,vals j=vals0 j)→LO P md ops R w0 m Em Q i vals (frm ops a0 vals (bw ops ci i)))∧
   (∀vals:Nat→Value,(∀j∈pre,vals j=vals0 j)→∃vals1:Nat→Value,(∀j∈ci,vals j=vals1 j)∧F vals1 (frm ops a0 vals1 (bw ops ci ops.size)))
 | [],pre,vals0,he,h=>⟨(fun i hi=>by cases hi),fun vals hv=>⟨vals0,fun j hj=>hv j (by simpa [he]using hj),by rw[he,qgd];exact h⟩⟩
 |i::l,pre,vals0,he,h=>by
  have hpre:∀j,(bw ops pre ops.size).getD j false=true→j∈pre:=fun j hj=>by
   rw[bg]at hj;simp at hj;exact hj.2
  have hu:bw ops ci i=bw ops pre ops.size:=by rw[he];exact jr (he▸hp)
  have hici:i∈ci:=by rw[he];simp
  have step:∀vals:Nat→Value,(∀j∈pre,vals j=vals0 j)→_:=fun vals hv=>
   WX hd hp hlt hdep l (pre++[i]) (upd vals0 i (vals i)) (by rw[he];simp) (by
    have:=h.2 (vals i)
    rw[dU hd (by rw[eD];exact hlt i hici),jq (hlt i hici)]at this
    exact this)
  have agree:∀vals:Nat→Value,(∀j∈pre,vals j=vals0 j)→∀j∈pre++[i],vals j=upd vals0 i (vals i) j:=fun vals hv j hj=>by
   by_cases hji:j=i
   ·subst hji;simp[upd]
   ·simp only[upd,if_neg hji]
    exact hv j (by simpa [hji]using hj)
  refine⟨fun k hk vals hv=> ?_,fun vals hv=>(step vals hv).2 vals (agree vals hv)⟩
  rcases alsk.1 hk with rfl|hk
  ·rw[hu,dO (vals:=vals) (vals':=vals0) (fun j hj=>hv j (hpre j hj))]
   intro w' hb hR
   refine h.1 w' hb (fun j hj=> ?_)
   obtain⟨h1,h2⟩:=hdep k hici j hj
   have hjp:j∈pre:=by
    have h3:(bw ops ci k).getD j false=true:=by rw[bg];simp[hlt j h2,h1,h2]
    rw[hu]at h3
    exact hpre j h3
   rw[←hv j hjp]
   exact hR j hj
  ·exact(step vals hv).1 k hk vals (agree vals hv)
theorem CS {id:Nat} {a:Act} {w:World} {l:List Oper} (m:Nat) (D:List Nat) (Em:World→World→Prop) (ci:List Nat) (t0:Nat) (ts:List Nat) (R:Nat→Value→World→Prop) (hm:P.follows .mixedOrders=true) (hB:kP .any l.toArray ci t0 ts=true)
  (hfr:Jo .any l.toArray ci m D=true) (hEr:∀w,Em w w) (hEb:∀w',Below w.heap.size w w'→∀w'',Em w' w''→Below w.heap.size w w'') (hst:∀i v w w',Below w.heap.size w w'→R i v w→R i v w') (hsm:∀i v w w',i ∉ D→Region.waitsFor .any l.toArray i m=false→i≠m→Em w w'→R i v w→R i v w')
  (h:Ia P .any l.toArray R w m Em Q (fun vals a'=>∀w',Below w.heap.size w w'→(∀i∈ci,i ∉ D→R i (vals i) w')→wpList P l.toArray (NoPanic Q) (bu l.toArray (t0::ts)) a' w') ci (fun _=>undef) a):
  (Code.region id l.toArray true).wp P Q a w:=by
 refine wp_region_noPanic (wp_region_any hm ?_)
 have hB':=hB
 simp only[kP,qaF,qfV]at hB
 obtain⟨⟨⟨⟨⟨⟨⟨⟨⟨⟨⟨hsel,hd⟩,hnd⟩,hpw⟩,htl⟩,hsz⟩,hs⟩,hc⟩,hdis⟩,hcov⟩,hop⟩,hfo⟩:=hB
 have hlt:∀i∈ci,i<l.toArray.size:=fun i hi=>by
  have h:=alsi.1 hop i hi
  rcases Nat.lt_or_ge i l.toArray.size with h'|h'
  ·exact h'
  ·rw[Array.getElem?_eq_none h']at h;cases h
 have hdep:∀i∈ci,∀j,Region.waitsFor .any l.toArray i j=true→j<i∧j∈ci:=fun i hi j hj=>by
  have h:=alsi.1 hop i hi
  obtain⟨o,ho,e,hem,hb,rfl⟩:=Region.waitsFor_spec hj
  rw[ho]at h
  simp only[qaF]at h
  have:=Array.all_eq_true'.1 h.1 e hem
  simpa [hb]using this
 have hnil:∀j,(bw l.toArray [] l.toArray.size).getD j false=false:=fun j=>by rw[bg];simp
 have hobs:=WX (m:=m) (Em:=Em) (P:=P) (md:= .any) (Q:=Q) (R:=R) (a0:=a) (w0:=w) hd hpw hlt hdep ci [] (fun _=>undef) rfl (by rw[dD hnil];exact h)
 have hrep:∀j,(Array.replicate l.toArray.size false).getD j false=false:=fun j=>getD_replicate_false _ _
 have:=DZ (P:=P) (Q:=Q) hB' (a0:=a) (w0:=w) hfr hEr (fun w1 w2 h1 h2=>hEb w1 h1 w2 h2) hst hsm (fun i hi vals=>hobs.1 i hi vals (by simp)) (fun vals w' hb hR=>by
   obtain⟨vals1,h1,h2⟩:=hobs.2 vals (by simp)
   rw[dO (vals:=vals) (vals':=vals1) (fun j hj=>h1 j (by rw[bg]at hj;simp at hj;exact hj.2))]
   exact h2 w' hb (fun i hi hD=>by rw[←h1 i hi];exact hR i hi hD)) ci.length (Array.replicate l.toArray.size false) (fun _=>undef) {w with drawn:=w.drawn+1}
  ⟨fun j oj _ hl=>(by rw[hrep]at hl;cases hl),fun t _ ht=>getD_in (by simpa using ht) (getD_replicate_false _ _),by simp⟩
  (by rw[List.filter_eq_self.2 (fun i _=>by rw[hrep];rfl)]) ⟨rfl,rfl,rfl,qaA _,fun _ _=>rfl⟩ (fun j hj _=>by rw[hrep]at hj;cases hj)
 rw[dD hrep,hsz]at this
 exact this
variable {R:Nat→Value→World→Prop} {w0:World} {m:Nat} {Em:World→World→Prop} {F:(Nat→Value)→Act→Prop} {i:Nat} {l:List Nat} {vals:Nat→Value} {a:Act} {o:Oper} {d:Nat}
theorem LP (h:F vals a):Ia P md ops R w0 m Em Q F [] vals a:=h
theorem wdu (h1:∀u:Ext w0,(∀j,Region.waitsFor md ops i j=true→R j (vals j) u.val)→
   ∀K:Act→World→Prop,(∀v w'',EF m Em i u.val w''→R i v w''→K (a.put (some d) v) w'')→o.wp P a u.val K (NoPanic Q))
  (h2:∀v,Ia P md ops R w0 m Em Q F l (upd vals i v) (a.put (some d) v)) (ho:ops[i]? =some o:=by rfl) (hd:o.dst=some d:=by rfl) (hlt:d<a.tmps.size:=by simp) (hg:o.guard=none:=by rfl):Ia P md ops R w0 m Em Q F (i::l) vals a:=by
 refine⟨fun w' hb hR=>⟨o,d,ho,hd,hlt, ?_⟩,fun v=> ?_⟩
 ·rw[if_pos (by unfold Region.wanted;rw[hg])]
  exact h1 ⟨w',hb⟩ hR _ (fun v w'' hb' hr=>⟨v,by rw[hd],hb',hr⟩)
 ·have:aM ops i=some d:=by simp[aM,ho,hd]
  rw[this]
  exact h2 v
end
end
end Go.Proofs.YtffbilcjhlncfaaGreatDoor
