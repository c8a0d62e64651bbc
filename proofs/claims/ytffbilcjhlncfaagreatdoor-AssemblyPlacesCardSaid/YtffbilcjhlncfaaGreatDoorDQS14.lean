/- texts: I2 I3 I4 B2 B4 Srt4 B5 B6 B7 B8. -/
import Derived.Test.YtffbilcjhlncfaaGreatDoorDQS10
import Derived.Test.YtffbilcjhlncfaaGreatDoorDQS12
import Derived.Test.YtffbilcjhlncfaaGreatDoorDQS13
namespace Go.Proofs.YtffbilcjhlncfaaGreatDoor
set_option maxHeartbeats 8000000
set_option linter.all false
section
open Go.RowKit Go.Shelf
attribute [local go_sem] Ext.cell Ext.frozen
theorem MP (p c:Q4):decide (0<sd p c)=decide (0<cw p c):=by
 rw[Bool.eq_iff_iff];simp[(IY p c).1]
theorem Jj (p c:Q4) (b:Nat) (w:World) (hp:okW p) (hc:okX c) (h0:w.cell? ⟨b,0,none⟩=some (.int .i64 c.1)) (h1:w.cell? ⟨b,1,none⟩=some (.int .i64 c.2.1)) (h2:w.cell? ⟨b,2,none⟩=some (.int .i64 c.2.2.1)) (h3:w.cell? ⟨b,3,none⟩=some (.int .i64 c.2.2.2)):
  Calls Tryz.prog 222 #[v4 p, .pointer (some ⟨b,0,none⟩)] w (Ret w (.bool (decide (0<sd p c)))):=by
 rw[MP]
 have hs:=fun W=>YJ (BK p c W hp hc)
 have hlt:=qaC w _ h0
 go_enter Tryz.func222,Tryz.ntmps222
 go_wp2_with fail
 refine((hs _).out).mono ?_
 rintro e w1 ⟨rfl,hb1⟩
 go_wp2
 go_ret
 exact⟨rfl,fB bel hb1⟩
theorem KI:∀args w,(callFunc 222 args).run Tryz.prog w= .ok (.enter 222 args) w:=enters_of Tryz.func222 (by kernel_rfl) rfl
theorem GY (p c:Q4) (b:Nat) (w:World) (hp:okW p) (hc:okX c) (h0:w.cell? ⟨b,0,none⟩=some (.int .i64 c.1)) (h1:w.cell? ⟨b,1,none⟩=some (.int .i64 c.2.1)) (h2:w.cell? ⟨b,2,none⟩=some (.int .i64 c.2.2.1)) (h3:w.cell? ⟨b,3,none⟩=some (.int .i64 c.2.2.2)):
  gH Tryz.prog 222 #[.pointer (some ⟨b,0,none⟩)] w (v4 p) (decide (0<sd p c)):=
 fun _ hb=>Jj p c b _ hp hc (ab hb h0) (ab hb h1) (ab hb h2) (ab hb h3)
theorem Ch (v:Value) (xs:List Q4) (p:Q4→Bool) (g:Nat) (cb:Array Value) (w:World) (hx:Q4s w v xs) (hm:xs.length≤1000000000)
  (eg:∀args w,(callFunc g args).run Tryz.prog w= .ok (.enter g args) w) (hp:∀x∈xs,gH Tryz.prog g cb w (v4 x) (p x)):
  Calls Tryz.prog 247 #[v, .func (.func g) #[] cb] w (Ret w (.int .i64 (nM p xs))):=by
 obtain⟨a,n,c,rfl,hn,_,hx⟩:=hx
 have HP:=YJ hp
 clear hp
 go_enter Tryz.func247,Tryz.ntmps247
 go_wp2
 go_loopw [8] (fun i wr=>∃k:Nat,k≤n∧i= .int .i64 k∧Below w.heap.size w wr∧Hid (∀i (h:i<xs.length),i<k→p xs[i]=false)) (fun i _=>n-(intOf i).toNat)
 case atStart=>exact⟨0,by omega,rfl,brf,YJ (fun i _ h=>by omega)⟩
 case round=>
  obtain⟨k,hk,rfl,hb,Hz⟩:=hrel
  by_cases hlt:k<n
  ·obtain⟨b,off,rfl,hi⟩:=hx (by omega)
   obtain⟨c0,c1,c2,c3⟩:=(hi.below hb) k (by omega)
   have hc:=HP.out (xs[k]) (by simp) wr hb
   have Hh:=YJ (lP (p:=p) (xs:=xs) (k:=k) (by omega))
   obtain⟨x,Hx⟩:∃x,Hid (xs[k]=x):=⟨_,YJ rfl⟩
   rw[Hx.out]at c0 c1 c2 c3 hc
   clear hx hi
   have Hc:=YJ hc
   clear hc
   cases hpx:p x with
   |true=>
    rw[hpx]at Hc
    go_wp2_with fail
    refine(Hc.out).mono ?_
    rintro e w1 ⟨rfl,hb1⟩
    go_wp2
    go_ret
    exact⟨aK (by rw[Hh.out (by rw[Hx.out];exact hpx) Hz.out]),fB hb hb1⟩
   |false=>
    rw[hpx]at Hc
    have Hpx:=YJ hpx
    clear hpx
    go_wp2_with fail
    refine(Hc.out).mono ?_
    rintro e w1 ⟨rfl,hb1⟩
    go_wp2
    go_roundw
    case rel=>exact⟨k+1,by omega,by go_num,fB hb hb1,YJ (fun i hi hik=>by
     by_cases e:i=k
     ·subst e;rw[Hx.out];exact Hpx.out
     ·exact Hz.out i hi (by omega))⟩
    simp[intOf];omega
  ·have Hn:=YJ (jU (fun i hi=>Hz.out i hi (by omega)))
   clear hx
   go_wp2
   go_ret
   exact⟨aK (by rw[Hn.out]),hb⟩
theorem CR (v:Value) (xs:List Q4) (p:Q4→Bool) (g:Nat) (cb:Array Value) (w:World) (hx:Q4s w v xs) (hm:xs.length≤1000000000)
  (eg:∀args w,(callFunc g args).run Tryz.prog w= .ok (.enter g args) w) (hp:∀x∈xs,gH Tryz.prog g cb w (v4 x) (p x)):
  Calls Tryz.prog 221 #[v, .func (.func g) #[] cb] w (Ret w (.bool (xs.any p))):=by
 have Hc:=YJ (Ch v xs p g cb w hx hm eg hp)
 have HN:=YJ (vJ p xs)
 clear hx hp eg
 go_enter Tryz.func221,Tryz.ntmps221
 go_wp2_with fail
 refine(Hc.out).mono ?_
 rintro e w1 ⟨rfl,hb1⟩
 go_wp2
 go_ret
 exact⟨ay HN.out,hb1⟩
theorem EE (ps:List Q4) (c:Q4) (pv:Value) (a:Option Addr) (n cc:Nat) (w:World) (hps:∀p∈ps,okW p) (hc:okX c) (hl:ps.length≤1000000) (hpv:Q4s w pv ps):
  Calls Tryz.prog 176 #[.agg #[pv, .slice a n cc],v4 c] w (Ret w (.bool (bG ps c))):=by
 obtain⟨V,HV⟩:∃V,Hid ((w.alloc (.cells #[pv, .slice a n cc] 216)).alloc (.cells #[.int .i64 c.1, .int .i64 c.2.1, .int .i64 c.2.2.1, .int .i64 c.2.2.2] 263)=V):=⟨_,YJ rfl⟩
 have hV:Below w.heap.size w V:=by rw[←HV.out];exact bel
 have HC:Hid (V.heap[w.heap.size+1]? =some (.cells #[.int .i64 c.1, .int .i64 c.2.1, .int .i64 c.2.2.1, .int .i64 c.2.2.2] 263 (0,0))):=YJ (by rw[←HV.out];exact ai (by simp))
 have HB:Hid (V.heap[w.heap.size]? =some (.cells #[pv, .slice a n cc] 216 (0,0))):=YJ (by rw[←HV.out];exact(aB (by simp)).trans (ai rfl))
 obtain⟨c0,c1,c2,c3,_,cz⟩:=am HC.out
 have k0:V.cell? ⟨w.heap.size,0,none⟩=some pv:=(bq HB.out 0).trans rfl
 have kz:=ah HB.out
 have hcon:=YJ (CR pv ps (fun p=>decide (0<sd p c)) _ _ V (hpv.below hV) (by omega) KI (fun p hp=>GY p c (w.heap.size+1) V (hps p hp) hc c0 c1 c2 c3))
 have HA:Hid (bG ps c= !(ps.any fun p=>decide (0<sd p c))):=YJ rfl
 obtain⟨pa,pn,pc,rfl, -⟩:=hpv
 generalize(ps.any fun p=>decide (0<sd p c))=r at*
 generalize bG ps c=al at*
 clear c0 c1 c2 c3 hps
 go_enter Tryz.func176,Tryz.ntmps176
 go_wp2_with fail
 try rw[HV.out]
 go_wp2_with fail
 refine(hcon.out).mono ?_
 rintro e w1 ⟨rfl,hb1⟩
 go_wp2
 go_ret
 exact⟨ay HA.out.symm,fB hV hb1⟩
theorem LM:Tryz.prog.underlying 263=some (.struct (Tryz.prog.fieldsOf 263)):=by kernel_rfl
theorem GZ:(Tryz.prog.fieldsOf 263).toList.map (fun f=>(f.type,f.offset,decide (f.name≠ "_")))=[(37,0,true),(3,3,true)]:=by kernel_rfl
theorem KJ (x y z q:Value) (w:World):(part 37 #[x,y,z,q] 0).run Tryz.prog w= .ok (.agg #[x,y,z]) w:=by kernel_rfl
theorem MQ (a b c x y z:Int) (w:World):(Op.equalIn 9999 37 (.agg #[.int .i64 a, .int .i64 b, .int .i64 c]) (.agg #[.int .i64 x, .int .i64 y, .int .i64 z])).run Tryz.prog w= .ok (a==x&&b==y&&c==z) w:=by
 obtain⟨i,hi⟩:=lM
 rw[run_equalIn_array w 9998 _ _ oN hi,fx]
 rw[show List.range 3=[0,1,2]from rfl,lN 9997]
theorem qfj (fs:List Field) (hf:fs.map (fun f=>(f.type,f.offset,decide (f.name≠ "_")))=[(37,0,true),(3,3,true)]) (a b c e x y z q:Int) (w:World):
  (Op.eqFields 9999 #[.int .i64 a, .int .i64 b, .int .i64 c, .int .i64 e] #[.int .i64 x, .int .i64 y, .int .i64 z, .int .i64 q] fs).run Tryz.prog w= .ok (a==x&&b==y&&c==z&&e==q) w:=by
 have hlen:fs.length=2:=by simpa using congrArg List.length hf
 match fs,hlen,hf with
 | [f0,f1],_,hf=>
  simp only[List.map_cons,List.map_nil,List.cons.injEq,Prod.mk.injEq,and_true,qfV]at hf
  obtain⟨⟨a0,o0,n0⟩,⟨a1,o1,n1⟩⟩:=hf
  have h3:=MQ a b c x y z w
  simp[Op.eqFields,a0,o0,n0,a1,o1,n1,KJ,xw,eqF,h3]
  by_cases h1:a=x<;>by_cases h2:b=y<;>by_cases h3:c=z<;>by_cases h4:e=q<;>simp[h1,h2,h3,h4]
theorem FL (a b c e x y z q:Int) (w:World):(Op.equalIn 10000 263 (v4 (a,b,c,e)) (v4 (x,y,z,q))).run Tryz.prog w= .ok (a==x&&b==y&&c==z&&e==q) w:=by
 rw[run_equalIn_struct w 9999 _ _ _ LM (by kernel_rfl),qfj _ GZ]
theorem My (x y:Q4) (w:World):(Op.equalIn 10000 263 (.agg #[.int .i64 x.1, .int .i64 x.2.1, .int .i64 x.2.2.1, .int .i64 x.2.2.2]) (.agg #[.int .i64 y.1, .int .i64 y.2.1, .int .i64 y.2.2.1, .int .i64 y.2.2.2])).run Tryz.prog w= .ok (decide (x=y)) w:=by
 rw[←zS];exact FL _ _ _ _ _ _ _ _ w
def EG (cs:List Q4) (c:Q4):Bool:=decide (c∈cs)
theorem EH (cs:List Q4) (c:Q4) (v:Value) (w:World) (hm:cs.length≤1000000000) (hx:Q4s w v cs):
  Calls Tryz.prog 248 #[v,v4 c] w (Ret w (.int .i64 (nM (fun x=>decide (c=x)) cs))):=by
 obtain⟨a,n,cc,rfl,hn,_,hx⟩:=hx
 obtain⟨V,HV⟩:∃V,Hid (w.alloc (.cells #[.int .i64 c.1, .int .i64 c.2.1, .int .i64 c.2.2.1, .int .i64 c.2.2.2] 263)=V):=⟨_,YJ rfl⟩
 have hV:Below w.heap.size w V:=by rw[←HV.out];exact bel
 have HC:Hid (V.heap[w.heap.size]? =some (.cells #[.int .i64 c.1, .int .i64 c.2.1, .int .i64 c.2.2.1, .int .i64 c.2.2.2] 263 (0,0))):=YJ (by rw[←HV.out];exact ai rfl)
 have HX:Hid (0<n→∃b off,a=some ⟨b,off,none⟩∧Q4At V b off cs):=YJ (fun h=>by obtain⟨b,off,e,h2⟩:=hx h;exact⟨b,off,e,h2.below hV⟩)
 have Hhit:=YJ (fun k (hk:k<cs.length)=>lP (p:=fun x=>decide (c=x)) (xs:=cs) hk)
 have Hnone:=YJ (jU (p:=fun x=>decide (c=x)) (xs:=cs))
 generalize nM (fun x=>decide (c=x)) cs=r at*
 clear hx
 go_enter Tryz.func248,Tryz.ntmps248
 go_wp2
 rw[HV.out]
 go_loopw [8] (fun i wr=>∃k:Nat,k≤n∧i= .int .i64 k∧Below V.heap.size V wr∧Hid (∀i (h:i<cs.length),i<k→decide (c=cs[i])=false)) (fun i _=>n-(intOf i).toNat)
 case atStart=>exact⟨0,by omega,rfl,brf,YJ (fun i _ h=>by omega)⟩
 case round=>
  obtain⟨k,hk,rfl,hb,Hz⟩:=hrel
  by_cases hlt:k<n
  ·obtain⟨b,off,rfl,hi⟩:=HX.out (by omega)
   obtain⟨e0,e1,e2,e3⟩:=(hi.below hb) k (by omega)
   have ze:=qaC wr _ e0
   simp only at ze
   have HCr:=YJ ((hb.block _ (ah HC.out)).trans HC.out)
   obtain⟨f0,f1,f2,f3,_,fz⟩:=am HCr.out
   have Hh:=YJ (Hhit.out k (by omega))
   obtain⟨x,Hx⟩:∃x,Hid (cs[k]=x):=⟨_,YJ rfl⟩
   rw[Hx.out]at e0 e1 e2 e3
   have hq:=My c x
   clear hi HX Hhit Hnone
   by_cases hcx:c=x
   ·have Hcx:=YJ hcx
    rw[qfX hcx]at hq
    clear hcx
    go_wp2
    refine wqf fun u=> ?_
    go_wp2
    go_ret
    exact⟨aK (Hh.out (by rw[Hx.out];exact qfX Hcx.out) Hz.out).symm,fB hV (fB hb u.below)⟩
   ·have Hcx:=YJ hcx
    rw[qfZ hcx]at hq
    clear hcx
    go_wp2
    refine wqf fun u=> ?_
    go_wp2
    go_roundw
    case rel=>exact⟨k+1,by omega,by go_num,fB hb u.below,YJ (fun i hi hik=>by
     by_cases e:i=k
     ·subst e;rw[Hx.out];exact qfZ Hcx.out
     ·exact Hz.out i hi (by omega))⟩
    simp[intOf];omega
  ·have HN:=YJ (Hnone.out (fun i hi=>Hz.out i hi (by omega)))
   go_wp2
   go_ret
   exact⟨aK HN.out.symm,fB hV hb⟩
theorem SX (cs:List Q4) (c:Q4):decide (0≤nM (fun x=>decide (c=x)) cs)=EG cs c:=by
 rw[vJ]
 unfold EG
 rw[Bool.eq_iff_iff]
 simp
theorem Dg (cs:List Q4) (c:Q4) (v:Value) (w:World) (hm:cs.length≤1000000000) (hx:Q4s w v cs):
  Calls Tryz.prog 224 #[v,v4 c] w (Ret w (.bool (EG cs c))):=by
 have Hc:=fun W hb=>YJ (EH cs c v W hm (hx.below (w':=W) hb))
 have HN:=YJ (SX cs c)
 generalize nM (fun x=>decide (c=x)) cs=r at*
 obtain⟨a,n,cc,rfl, -⟩:=hx
 go_enter Tryz.func224,Tryz.ntmps224
 go_wp2_with fail
 refine((Hc _ bel).out).mono ?_
 rintro e w1 ⟨rfl,hb1⟩
 go_wp2
 go_ret
 exact⟨ay HN.out,fB bel hb1⟩
theorem KK:(Tryz.prog.info? 263).map (fun i=>(i.zero,i.size,i.bytes))=some (some (v4 (0,0,0,0)),4,32):=by kernel_rfl
theorem qim:Tryz.prog.underlying 214=some (.slice 263):=by kernel_rfl
def BAt (w:World) (bb base:Nat) (pv:Value) (cs:List Q4):Prop:=
 ∃cv,w.heap[bb]? =some (.cells #[pv,cv] 216 (0,0))∧w.ownsRow base 263 4 cv cs.length (cs.flatMap aH)
theorem BAt.keep {w w':World} {bb base:Nat} {pv:Value} {cs:List Q4} (h:BAt w bb base pv cs) (hb:Below w.heap.size w w'):BAt w' bb base pv cs:=by
 obtain⟨cv,h1,h2⟩:=h
 exact⟨cv,(hb.block _ (ah h1)).trans h1,au h2 hb⟩
theorem Jk {w:World} {base:Nat} {T:TypeId} {v:Value} {cs:List Q4} (h:w.ownsRow base T 4 v cs.length (cs.flatMap aH)):Q4s w v cs:=jz h
theorem Ht (c:Q4) (cs:List Q4) (pv:Value) (bb base:Nat) (w:World) (hn:cs.length≤1000000) (hB:BAt w bb base pv cs) (hbs:base≤w.heap.size):
  Calls Tryz.prog 177 #[.pointer (some ⟨bb,0,none⟩),v4 c] w fun e w'=>e= .returned (.tuple #[])∧BAt w' bb base pv (NW cs c)∧w.heap.size≤w'.heap.size∧
   (∀W,Below base W w→base≤bb→Below base W w')∧∀g cells t,g≠bb→263≠t→w.heap[g]? =some (.cells cells t (0,0))→w'.heap[g]? =some (.cells cells t (0,0)):=by
 obtain⟨cv,hB,hown⟩:=hB
 obtain⟨W,HW⟩:∃W,Hid (W=w.alloc (.cells #[.int .i64 c.1, .int .i64 c.2.1, .int .i64 c.2.2.1, .int .i64 c.2.2.2] 263)):=⟨_,YJ rfl⟩
 have hbW:Below w.heap.size w W:=by rw[HW.out];exact bel
 have hlt:bb<w.heap.size:=(alsl.1 hB).1
 have k1:W.cell? ⟨bb,1,none⟩=some cv:=ab hbW (cell_of_row w bb 1 _ _ _ hB)
 have HM:Hid (W.heap[w.heap.size]? =some (.cells #[.int .i64 c.1, .int .i64 c.2.1, .int .i64 c.2.2.1, .int .i64 c.2.2.2] 263 (0,0))):=YJ (by rw[HW.out];exact ai rfl)
 obtain⟨m0,m1,m2,m3,_,mz⟩:=am HM.out
 have hcon:=fun W' h=>YJ (Dg cs c cv W' (by omega) ((Jk (au hown hbW)).below (w':=W') h))
 have HAdd:Hid (NW cs c=if c∈cs then cs else cs++[c]):=YJ rfl
 have zbb:bb<W.heap.size:=qaG hlt hbW.size
 obtain⟨ca,cc,hcv⟩:=aT hown
 subst hcv
 go_enter Tryz.func177,Tryz.ntmps177
 go_wp2_with fail
 try rw[←HW.out]
 by_cases hin:c∈cs
 ·have hh:EG cs c=true:=qfX hin
  have hcon2:=fun W' h=>YJ (by have:=(hcon W' h).out;rw[hh]at this;exact this)
  clear hcon hh
  refine wqb ?_
  repeat(first|go_big_quiet_step ((go_at_call 224;exact aE ((hcon2 _ bel).out)))|quiet_step ((go_at_call 224;exact aE ((hcon2 _ bel).out))))
  refine wqn fun u=> ?_
  have hwu:Below w.heap.size w u.val:=fB hbW u.below
  go_wp2
  go_end0
  refine⟨rfl, ?_,hwu.size,fun W' h1 h2=>h1.trans (hwu.mono hbs),fun g cells t hg ht hgb=>(hwu.block g (ah hgb)).trans hgb⟩
  rw[HAdd.out,if_pos hin]
  exact BAt.keep ⟨_,hB,hown⟩ hwu
 ·have hh:EG cs c=false:=qfZ hin
  have hcon2:=fun W' h=>YJ (by have:=(hcon W' h).out;rw[hh]at this;exact this)
  clear hcon hh
  refine wqb ?_
  repeat(first|go_big_quiet_step ((go_at_call 224;exact aE ((hcon2 _ bel).out)))|quiet_step ((go_at_call 224;exact aE ((hcon2 _ bel).out))))
  refine wqn fun u=> ?_
  have hwu:Below w.heap.size w u.val:=fB hbW u.below
  have hB':u.val.heap[bb]? =some (.cells #[pv, .slice ca cs.length cc] 216 (0,0)):=(hwu.block bb hlt).trans hB
  have HM2:=YJ ((u.below.block _ mz).trans HM.out)
  have hown1:=au hown hwu
  clear m0 m1 m2 m3 hbW k1 hB hown hcon2
  generalize u.val=w1 at*
  clear u mz zbb
  obtain⟨m0,m1,m2,m3,_,z0⟩:=am HM2.out
  have z1:=ah hB'
  have q1:w1.cell? ⟨bb,1,none⟩=some (.slice ca cs.length cc):=(bq hB' 1).trans rfl
  go_wp2
  refine mO [0,1,2,3] [4,5] 6 7 [8,9,10] (by kernel_rfl) (by kernel_rfl) (fun w'=>∃u:Ext _,w'=u.val) ⟨Ext.drew,rfl⟩ ?_
  simp only[oas]
  repeat(refine zd (fun K' hK'=> ?_);go_simp;refine hK' _ ?_;clear hK' K')
  refine lG ?_
  repeat(refine uH (fun K' hK'=> ?_);go_simp;refine hK' _ ?_;clear hK' K')
  refine xk ?_
  refine wpList_step (fun K hK=> ?_)
  go_simp
  refine hK _ _ ?_
  clear hK K
  refine⟨⟨⟨_,bel⟩,rfl⟩, ?_⟩
  obtain⟨i0,hi,hz0,hz1,hz2⟩:=info_parts KK
  refine wpList_append_own _ rfl _ _ 214 rfl base 263 i0 (v4 (0,0,0,0)) 4 32 qim hi hz0 hz1 hz2 rfl (by decide) _ cs.length _ rfl ((hown1.alloc _).drew) ⟨w1.heap.size,0,none⟩ 1 1 [.int .i64 c.1, .int .i64 c.2.1, .int .i64 c.2.2.1, .int .i64 c.2.2.2] rfl rfl ?c1 ?c2 ?c3 ?c4 ?c5 ?_
  case c1=>
   intro j u hu
   have:(w1.alloc (.cells #[.int .i64 c.1, .int .i64 c.2.1, .int .i64 c.2.2.1, .int .i64 c.2.2.2] 263)).cell? ⟨w1.heap.size,j,none⟩=some u:=by rw[aq rfl j];simpa using hu
   rw[jY];exact this
  case c2=>intro u hu;simp at hu;rcases hu with rfl|rfl|rfl|rfl<;>rfl
  case c3=>unfold maxLen;omega
  case c4=>omega
  case c5=>have:=hwu.size;simp;omega
  intro v' w2 hown2 hg2 _
  have hne:some bb≠(Value.slice ca cs.length cc).ownBlock:=fun e=>aG hown1 hB' (by decide) e.symm
  have hBk:w2.heap[bb]? =some (.cells #[pv, .slice ca cs.length cc] 216 (0,0)):=(hg2.block bb (by simp;omega) hne).trans ((Below.heap_alloc w1 _ bb z1).trans hB')
  have k1:w2.cell? ⟨bb,1,none⟩=some (.slice ca cs.length cc):=cell_of_row w2 bb 1 _ _ _ hBk
  have kf:w2.frozen? ⟨bb,1,none⟩=false:=by simp[World.frozen?,hBk]
  have hbw2:Kept2 w w2 bb (Value.slice ca cs.length cc).ownBlock:=by
   refine⟨hg2.os.trans hwu.os,hg2.tape.trans hwu.tape,hg2.output.trans hwu.output, ?_,fun k hk h1 h2=> ?_⟩
   ·have h1:=hg2.size;have h2:=hwu.size;simp at h1;omega
   ·have:=hwu.size
    exact(hg2.block k (by simp;omega) h2).trans ((Below.heap_alloc w1 _ k (by omega)).trans (hwu.block k hk))
  have HL:=YJ (fun k (h:(Value.slice ca cs.length cc).ownBlock=some k)=>(hown1.lt k h).1)
  have HT:=YJ (fun g cells t (ht:263≠t) (hgb:w1.heap[g]? =some (.cells cells t (0,0)))=>(fun e=>aG hown1 hgb ht e.symm:some g≠(Value.slice ca cs.length cc).ownBlock))
  clear hg2 hown1 q1 m0 m1 m2 m3 hB' hi hz0 hz1 hz2
  obtain⟨g,cap,rfl,hg,hglt⟩:=fF hown2 (by omega)
  have hbg:g≠bb:=fun e=>aG hown2 hBk (by decide) (by rw[e];rfl)
  have Hown2:=YJ hown2
  clear hown2
  go_frame
  iterate 3 (refine wpList_step (fun K hK=> ?_);go_simp;refine hK _ _ ?_;clear hK K)
  refine NoPanic.normal ?_
  go_wp2
  go_end0
  have hk3:=hbw2.set 1 (Value.slice (some ⟨g,0,none⟩) (cs.length+1) cap)
  refine⟨rfl, ?_,hk3.size,fun W' h1 h2=>h1.trans (hk3.below hbs h2 (fun k hk=>HL.out k hk)),fun g' cells t hg' ht hgb=>(hk3.block g' (ah hgb) hg' (HT.out g' cells t ht ((hwu.block _ (ah hgb)).trans hgb))).trans hgb⟩
  rw[HAdd.out,if_neg hin]
  refine⟨.slice (some ⟨g,0,none⟩) (cs.length+1) cap, ?_, ?_⟩
  ·have:=Tu hBk 1 (Value.slice (some ⟨g,0,none⟩) (cs.length+1) cap);simpa using this
  ·have:=aF Hown2.out ⟨bb,1,none⟩ (Value.slice (some ⟨g,0,none⟩) (cs.length+1) cap) (fun e=>hbg (by simpa [Value.ownBlock]using e.symm))
   simpa [aH]using this
end
section
open Go.RowKit Go.Shelf Go.Lib
attribute [local go_sem] Ext.cell Ext.frozen
theorem CW:(Tryz.prog.info? 261).map (fun i=>(i.zero,i.size,i.bytes))=some (some (v4 (0,0,0,0)),4,32):=by kernel_rfl
theorem Rk:Tryz.prog.underlying 213=some (.slice 261):=by kernel_rfl
theorem qin:∀w,(zeroValue 261).run Tryz.prog w= .ok (v4 (0,0,0,0)) w:=fun _=>by kernel_rfl
theorem Mz (b off j:Nat):(⟨b,off,none⟩:Addr).add j=⟨b,off+j,none⟩:=by
 unfold Addr.add
 by_cases h:j=0<;>simp[h]
theorem MA {w:World} {b off:Nat} {A:List Q4} (h:Q4At w b off A):∀j u,(A.flatMap aH)[j]? =some u→w.cell? ((⟨b,off,none⟩:Addr).add j)=some u:=by
 intro j u hu
 rw[Mz]
 have hj:=(List.getElem?_eq_some_iff.1 hu).1
 rw[dH aH 4 cP]at hj
 obtain⟨i,r,hr,rfl⟩:∃i r,r<4∧j=i*4+r:=⟨j / 4,j % 4,by omega,by omega⟩
 have hi:i<A.length:=by omega
 rw[eQ aH 4 (fun _=>rfl) _ i hi r hr]at hu
 obtain⟨c0,c1,c2,c3⟩:=h i hi
 rcases(by omega:r=0∨r=1∨r=2∨r=3)with rfl|rfl|rfl|rfl
 ·rw[←hu];exact c0
 ·rw[←hu];exact c1
 ·rw[←hu];exact c2
 ·rw[←hu];exact c3
theorem Hu (ps:List Q4):∀u∈ps.flatMap aH,u.oneCell'=true:=by
 intro u hu
 rw[List.mem_flatMap]at hu
 obtain⟨p,_,hu⟩:=hu
 simp[aH]at hu
 rcases hu with rfl|rfl|rfl|rfl<;>rfl
theorem CJ (ps:List Q4) (pv:Value) (W:World) (hl:ps.length≤1000000) (hpv:Q4s W pv ps):
  Calls Tryz.prog 226 #[pv] W fun e w'=>∃v,e= .returned v∧Below W.heap.size W w'∧w'.ownsRow W.heap.size 261 4 v ps.length (ps.flatMap aH):=by
 obtain⟨i0,Hi0⟩:=qfT CW
 obtain⟨a,n,c,rfl,hn,hc,hx⟩:=hpv
 have q22:∀(w:World) (a:Option Addr) (n c n' c':Nat),(binOp .eql 213 (.slice a n c) (.slice none n' c')).run Tryz.prog w= .ok (.bool a.isNone) w:=fun w a n c n' c'=>Lib.run_eql_slice_nil w _ _ a n c n' c' Rk
 cases a with
 |none=>
  have h0:n=0:=by
   rcases Nat.eq_zero_or_pos n with h|h
   ·exact h
   ·obtain⟨_,_,e,_⟩:=hx h;cases e
  subst h0
  obtain rfl:ps=[]:=alto.1 hn
  clear hx
  go_enter Tryz.func226,Tryz.ntmps226
  go_wp2
  go_ret
  exact⟨_,rfl,bel,qds _ _ _ _⟩
 |some ad=>
  have HSrc:Hid (∀j u,(ps.flatMap aH)[j]? =some u→W.cell? (ad.add j)=some u):=YJ (fun j u hu=>by
   rcases Nat.eq_zero_or_pos n with h|h
   ·obtain rfl:ps=[]:=alto.1 (by omega)
    simp at hu
   ·obtain⟨b,off,e,hi⟩:=hx h
    cases e
    exact MA hi j u hu)
  clear hx
  have hm0:(W.alloc (.cells #[] 261)).ownsRow W.heap.size 261 4 (.slice (some ⟨W.heap.size,0,none⟩) 0 0) 0 []:=World.ownsRow_made W #[] 0 (qaA _) (Nat.zero_le _) rfl
  have hx0:Below W.heap.size W (W.alloc (.cells #[] 261)):=bel
  go_enter Tryz.func226,Tryz.ntmps226
  go_wp2_with (at_builtin;refine wpList_append_own _ rfl _ _ 213 rfl W.heap.size 261 i0 (v4 (0,0,0,0)) 4 32 Rk Hi0.out.1 Hi0.out.2.1 Hi0.out.2.2.1 Hi0.out.2.2.2 rfl (by decide) _ 0 _ rfl hm0 ad n c (ps.flatMap aH) rfl (by rw[dH aH 4 cP,hn]) (fun j u hu=>ab hx0 (HSrc.out j u hu)) (Hu ps) (by unfold maxLen;omega) (by omega) hx0.size ?_)
  intro v' w4 hown4 hg4 _
  go_wp2
  go_ret
  refine⟨_,rfl, ?_, ?_⟩
  ·exact hx0.grown hg4 hx0.size (by intro k hk;simp[Value.ownBlock]at hk;omega)
  ·simpa [hn]using hown4
theorem rL {p:Q4→Bool} {xs:List Q4} {j:Nat} (h:j<xs.length):(xs.take (j+1)).filter p=(xs.take j).filter p++(if p xs[j]then [xs[j]]else []):=by
 rw[qaI h,qgo]
 by_cases hp:p xs[j]<;>simp[hp]
theorem kt {w w':World} {g:Nat} (h:Below w.heap.size w w'):w.grownBy w' (some g):=⟨h.os,h.tape,h.output,h.size,fun k hk _=>h.block k hk⟩
def DelInv (xs:List Q4) (p:Q4→Bool) (j i:Nat) (d:Array Q4):Prop:=
 d.size=xs.length∧i=((xs.take j).filter p).length∧i≤j∧d.toList.take i=(xs.take j).filter p∧(∀k,j≤k→(hk:k<xs.length)→d[k]! =xs[k])
theorem DelInv.keep {xs:List Q4} {p:Q4→Bool} {j i:Nat} {d:Array Q4} (h:DelInv xs p j i d) (hj:j<xs.length) (hp:p xs[j]=true):DelInv xs p (j+1) (i+1) (d.setIfInBounds i xs[j]):=by
 obtain⟨h1,h2,h3,h4,h5⟩:=h
 have e:=rL (p:=p) hj
 rw[if_pos hp]at e
 refine⟨by simpa using h1,by rw[e,qaE, ←h2];rfl,by omega, ?_,fun k hk hkl=> ?_⟩
 ·rw[e, ←h4]
  apply List.ext_getElem?
  intro k
  simp only[Array.toList_setIfInBounds]
  by_cases hk:k<i
  ·rw[qdx (by omega),List.getElem?_set_ne (by omega),List.getElem?_append_left (by simp;omega),qdx hk]
  ·by_cases hk2:k=i
   ·subst hk2
    have hl:(d.toList.take k).length=k:=by simp;omega
    rw[qdx (by omega),List.getElem?_set_self (by simp;omega),List.getElem?_append_right (by omega),hl]
    simp
   ·rw[List.getElem?_eq_none (by simp;omega),List.getElem?_eq_none (by simp;omega)]
 ·have:=h5 k (by omega) hkl
  rw[getElem!_pos _ k (by omega)]at this
  rw[getElem!_pos _ k (by simp;omega)]
  rw[Array.getElem_setIfInBounds_ne (by omega) (by omega)]
  exact this
theorem DelInv.skip {xs:List Q4} {p:Q4→Bool} {j i:Nat} {d:Array Q4} (h:DelInv xs p j i d) (hj:j<xs.length) (hp:p xs[j]=false):DelInv xs p (j+1) i d:=by
 obtain⟨h1,h2,h3,h4,h5⟩:=h
 have e:=rL (p:=p) hj
 rw[if_neg (by simp[hp]),qgd]at e
 exact⟨h1,by rw[e];exact h2,by omega,by rw[e];exact h4,fun k hk hkl=>h5 k (by omega) hkl⟩
theorem Hv {α:Type} {p:α→Bool} {xs:List α}:(nM p xs= -1∧∀i (h:i<xs.length),p xs[i]=false)∨∃k:Nat,nM p xs=k∧∃h:k<xs.length,p xs[k]=true∧∀i (h:i<xs.length),i<k→p xs[i]=false:=by
 by_cases h:∀i (h:i<xs.length),p xs[i]=false
 ·exact .inl ⟨jU h,h⟩
 ·right
  cases hf:xs.findIdx? p with
  |none=>
   rw[List.findIdx?_eq_none_iff]at hf
   exact absurd (fun i hi=>hf _ (qaB hi)) h
  |some k=>
   have e:nM p xs=k:=by simp[nM,hf]
   rw[List.findIdx?_eq_some_iff_getElem]at hf
   obtain⟨hk,hp,hlt⟩:=hf
   exact⟨k,e,hk,hp,fun i hi hik=>by simpa using hlt i hik⟩
set_option maxRecDepth 100000 in
theorem DY (xs:List Q4) (p:Q4→Bool) (fn:Nat) (cb:Array Value) (g n cap base:Nat) (w:World) (hn:xs.length=n) (hm:n≤1000000) (h0:0<n)
  (hown:w.ownsRow base 261 4 (.slice (some ⟨g,0,none⟩) n cap) n (xs.flatMap aH))
  (eg:∀args w,(callFunc fn args).run Tryz.prog w= .ok (.enter fn args) w) (hp:∀x∈xs,∀w',w.grownBy w' (some g)→Calls Tryz.prog fn (#[v4 x]++cb) w' (Ret w' (.bool (p x)))):
  Calls Tryz.prog 225 #[.slice (some ⟨g,0,none⟩) n cap, .func (.func fn) #[] cb] w fun e w'=>
   e= .returned (.slice (some ⟨g,0,none⟩) (xs.filter fun x=> !p x).length cap)∧w.grownBy w' (some g)∧w'.ownsRow base 261 4 (.slice (some ⟨g,0,none⟩) (xs.filter fun x=> !p x).length cap) (xs.filter fun x=> !p x).length ((xs.filter fun x=> !p x).flatMap aH):=by
 have Hown:=YJ hown
 have hq:Q4s w (.slice (some ⟨g,0,none⟩) n cap) xs:=jz (by rw[hn];exact hown)
 have Hix:=fun W hb=>YJ (Ch _ xs p fn cb W (hq.below (w':=W) hb) (by omega) eg (fun x hx w' hb'=>hp x hx w' (kt (fB hb hb'))))
 have HF:Hid (∀r,r=(xs.filter fun x=> !p x)→(xs.filter fun x=> !p x)=r):=YJ (fun r h=>h.symm)
 have HP:=YJ hp
 obtain⟨sp,hrow,hbase,hcap,hnc,hsp⟩:=XR xs.toArray (by simpa using hown)
 have HR:=YJ hrow
 clear hp hrow hown hq
 rcases Hv (p:=p) (xs:=xs)with⟨hi,hall⟩|⟨k0,hi,hk0,hpk,hlow⟩
 ·have e:(xs.filter fun x=> !p x)=xs:=List.filter_eq_self.2 (fun x hx=>by obtain⟨i,hi,rfl⟩:=qaJ hx;simp[hall i hi])
  rw[e,hn]
  rw[hi]at Hix
  clear HF HP HR hall e hi
  go_enter Tryz.func225,Tryz.ntmps225
  go_wp2_with fail
  refine((Hix _ bel).out).mono ?_
  rintro e w1 ⟨rfl,hb1⟩
  go_wp2
  go_ret
  exact⟨rfl,kt hb1,au Hown.out hb1⟩
 ·obtain⟨K,HK⟩:∃K,Hid ((k0:Int)=K):=⟨_,YJ rfl⟩
  have hK0:0≤K:=by have:=HK.out;omega
  have hK2:K≤1000000:=by have:=HK.out;omega
  have hk1:(K== -1)=false:=by rw[beq_eq_false_iff_ne];omega
  rw[hi,HK.out]at Hix
  have hI0:DelInv xs (fun x=> !p x) (k0+1) k0 xs.toArray:=by
   have e1:(xs.take k0).filter (fun x=> !p x)=xs.take k0:=List.filter_eq_self.2 (fun x hx=>by
    obtain⟨i,hi,rfl⟩:=qaJ hx
    have hi':i<k0:=by simp at hi;omega
    rw[List.getElem_take]
    simp[hlow i (by omega) hi'])
   have e2:=rL (p:=fun x=> !p x) hk0
   rw[if_neg (by simp[hpk]),qgd,e1]at e2
   exact⟨by simp,by rw[e2];simp;omega,by omega,by rw[e2],fun k hk hkl=>by rw[getElem!_pos _ k (by simpa using hkl)];simp⟩
  have HI0:=YJ hI0
  clear hI0 hlow hpk hi Hown
  go_enter Tryz.func225,Tryz.ntmps225
  go_wp2_with fail
  refine((Hix _ bel).out).mono ?_
  rintro e w1 ⟨rfl,hb1⟩
  clear Hix
  go_wp2
  go_loopw [5,6] (fun s5 s6 wr=>∃(i j:Nat) (d:Array Q4),s5= .int .i64 i∧s6= .int .i64 j∧k0<j∧j≤n∧i<j∧w.grownBy wr (some g)∧Hid (RowQ wr g 261 d sp)∧Hid (DelInv xs (fun x=> !p x) j i d)) (fun _ s6 _=>n-(intOf s6).toNat)
  case atStart=>exact⟨k0,k0+1,_,by rw[HK.out],by rw[←HK.out];go_num,by omega,by omega,by omega,kt hb1,YJ (HR.out.keep hb1),HI0⟩
  case round=>
   clear HR HI0 hb1
   obtain⟨i,j,d,rfl,rfl,hkj,hj,hij,hgr,HR,HI⟩:=hrel
   have hds:d.size=n:=by rw[←hn];exact HI.out.1
   have zg:=ah HR.out
   have fz:=HR.out.free
   by_cases hlt:j<n
   ·have hjl:j<xs.length:=by omega
    obtain⟨c0,c1,c2,c3⟩:=HR.out.get j (by omega)
    rw[HI.out.2.2.2.2 j (qaA _) hjl]at c0 c1 c2 c3
    have HIk:=YJ (HI.out.keep hjl)
    have HIs:=YJ (HI.out.skip hjl)
    have HC:=fun W' h=>YJ (HP.out xs[j] (qaB hjl) W' h)
    have Hds:=YJ hds
    clear hds HI
    generalize xs[j]=x at*
    obtain⟨x0,x1,x2,x3⟩:=x
    simp only at c0 c1 c2 c3
    cases hpx:p (x0,x1,x2,x3)with
    |true=>
     have HC2:=fun W' h=>YJ (by have:=(HC W' h).out;rw[hpx]at this;exact this)
     have HI2:=YJ (HIs.out (by simp[hpx]))
     clear HC HIk HIs hpx
     go_wp2_with fail
     refine((HC2 _ (cB hgr bel)).out).mono ?_
     rintro e w2 ⟨rfl,hb2⟩
     have hbr:Below wr.heap.size wr w2:=fB bel hb2
     have hgr2:=cB hgr hbr
     have HR2:=YJ (HR.out.keep hbr)
     clear c0 c1 c2 c3 HR hgr HC2 hb2
     go_wp2
     go_roundw
     case rel=>exact⟨i,j+1,d,rfl,by go_num,by omega,by omega,by omega,hgr2,HR2,HI2⟩
     simp[intOf];omega
    |false=>
     have HC2:=fun W' h=>YJ (by have:=(HC W' h).out;rw[hpx]at this;exact this)
     have HI2:=YJ (HIk.out (by simp[hpx]))
     clear HC HIk HIs hpx
     go_wp2_with fail
     refine((HC2 _ (cB hgr bel)).out).mono ?_
     rintro e w2 ⟨rfl,hb2⟩
     have hbr:Below wr.heap.size wr w2:=fB bel hb2
     have hgr2:=cB hgr hbr
     have HR2:=YJ (HR.out.keep hbr)
     have HX2:Hid (w2.heap[wr.heap.size]? =some (.cells #[.int .i64 x0, .int .i64 x1, .int .i64 x2, .int .i64 x3] 261 (0,0))):=YJ ((hb2.block _ (by simp)).trans (ai rfl))
     clear c0 c1 c2 c3 HR hgr HC2 hb2 zg fz
     obtain⟨c0,c1,c2,c3,_,cz⟩:=am HX2.out
     obtain⟨d0,d1,d2,d3⟩:=HR2.out.get i (by have:=Hds.out;omega)
     have zg:=ah HR2.out
     have fz:=HR2.out.free
     go_wp2
     go_roundw
     case rel=>exact⟨i+1,j+1,d.setIfInBounds i (x0,x1,x2,x3),by go_num,by go_num,by omega,by omega,by omega,cV (cV (cV (cV hgr2 _ _) _ _) _ _) _ _,YJ (HR2.out.set i (by have:=Hds.out;omega) (x0,x1,x2,x3)),HI2⟩
     simp[intOf];omega
   ·obtain rfl:j=n:=by omega
    have hcl:∀ty,(Builtin.clear_ #[213] ty #[.slice (some ⟨g,i*4,none⟩) (j-i) (cap-i)]).run Tryz.prog wr= .ok (.tuple #[]) (wr.setCells g (i*4) (List.replicate ((j-i)*4) (.int .i64 0))):=fun ty=>
     iX wr _ _ ty Rk qin g (i*4) _ _ (by omega) (fun jj hjj=>by
      rw[bq HR.out]
      have hl:(d.toList.flatMap aH).length=j*4:=by rw[dH aH 4 cP];simp;omega
      have hlt:i*4+jj<(d.toList.flatMap aH++sp).toArray.size:=by simp only[List.size_toArray,qaE,hl];omega
      rw[Array.getElem?_eq_getElem hlt];rfl) (fun jj _=>fz _)
    have hci:cap≠i:=by omega
    have hlen:(xs.filter fun x=> !p x)=d.toList.take i:=by
     have:=HI.out.2.2.2.1
     rw[qaK (l:=xs) (by omega)]at this
     exact this.symm
    have Hlen:=YJ hlen
    have Hds:=YJ hds
    have Hll:Hid ((d.toList.take i).length=i):=YJ (by simp;omega)
    clear hds fz hlen
    go_wp2
    go_ret
    rw[Hlen.out,Hll.out]
    refine⟨rfl,ee _ _ _ hgr, ?_⟩
    obtain⟨cur',hb',hs',hsame⟩:=ft g 261 (List.replicate ((j-i)*4) (.int .i64 0)) (i*4) wr _ HR.out
    have hown0:=gB (m:=i) (n:=j) HR.out hbase hcap (by have:=Hds.out;omega) hsp (by omega)
    refine⟨hown0.1, .inr ⟨g,cap,cur',rfl,hbase,hb',by omega,hcap, ?_, ?_⟩⟩
    ·rw[hs'];simp only[List.size_toArray,qaE];rw[dH aH 4 cP];simp;have:=Hds.out;omega
    ·rcases hown0.2 with⟨h0,_⟩|⟨g',cap',cur,hv,_,hh,_,_,_,ht⟩
     ·cases h0
     ·injection hv with h1 h2 h3
      injection h1 with h1
      injection h1 with h1
      subst h1
      rw[HR.out]at hh
      injection hh with hh
      injection hh with hh
      subst hh
      rw[←ht]
      apply List.ext_getElem?
      intro ii
      by_cases hi:ii<i*4
      ·rw[qdx hi,qdx hi]
       simpa using hsame ii hi
      ·rw[List.getElem?_eq_none (by simp;omega),List.getElem?_eq_none (by simp;omega)]
end
section
open Go.RowKit Go.Shelf Go.Lib
set_option maxRecDepth 100000
attribute [local go_sem] Ext.cell Ext.frozen
theorem Jl (cs:List Q4) (p:Q4) (k:Nat) (h:k<cs.length):onA (cs.take (k+1)) p=onA (cs.take k) p+(if cw p cs[k]=0 then 1 else 0):=by
 unfold onA
 rw[qaI h,qgo,qaE]
 by_cases hs:cw p cs[k]=0<;>simp[hs]
theorem LN (cs:List Q4) (p:Q4) (k:Nat):onA (cs.take k) p≤k:=by
 unfold onA
 exact qaD (qdz _ _) (List.length_take_le _ _)
theorem KN (p:Q4) (cs:List Q4) (bb:Nat) (pv cv:Value) (w:World) (hp:okW p) (hcs:∀c∈cs,okX c) (hl:cs.length≤1000000)
  (hB:w.heap[bb]? =some (.cells #[pv,cv] 216 (0,0))) (hcv:Q4s w cv cs):
  Calls Tryz.prog 227 #[v4 p, .pointer (some ⟨bb,0,none⟩)] w (Ret w (.bool (decide (onA cs p<3)))):=by
 obtain⟨V,HV⟩:∃V,Hid (w.alloc (.cells #[.int .i64 p.1, .int .i64 p.2.1, .int .i64 p.2.2.1, .int .i64 p.2.2.2] 261)=V):=⟨_,YJ rfl⟩
 have hV:Below w.heap.size w V:=by rw[←HV.out];exact bel
 have HPb:Hid (V.heap[w.heap.size]? =some (.cells #[.int .i64 p.1, .int .i64 p.2.1, .int .i64 p.2.2.1, .int .i64 p.2.2.2] 261 (0,0))):=YJ (by rw[←HV.out];exact ai rfl)
 obtain⟨a,n,c,rfl,hn,_,hx⟩:=hcv
 have HX:Hid (0<n→∃b off,a=some ⟨b,off,none⟩∧Q4At V b off cs):=YJ (fun h=>by obtain⟨b,off,e,h2⟩:=hx h;exact⟨b,off,e,h2.below hV⟩)
 have k1:w.cell? ⟨bb,1,none⟩=some (.slice a n c):=cell_of_row w bb 1 _ _ _ hB
 have kz:bb<w.heap.size:=ah hB
 have HS:=fun(k:Nat) (h:k<cs.length) W=>YJ (BK p cs[k] W hp (hcs _ (qaB h)))
 have HT:=fun(k:Nat) (h:k<cs.length)=>YJ (Jl cs p k h)
 have HL:=fun(k:Nat)=>YJ (LN cs p k)
 have HE:Hid (onA cs p=onA (cs.take n) p):=YJ (by rw[qaK (by omega)])
 have H0:Hid (onA (cs.take 0) p=0):=YJ rfl
 obtain⟨F,HF⟩:∃F:Nat→Nat,Hid (F=fun k=>onA (cs.take k) p):=⟨_,YJ rfl⟩
 have HT':=fun(k:Nat) (h:k<cs.length)=>YJ (show F (k+1)=F k+(if cw p cs[k]=0 then 1 else 0) by rw[HF.out];exact(HT k h).out)
 have HL':Hid (∀k,F k≤k):=YJ (fun k=>by rw[HF.out];exact(HL k).out)
 have HE':Hid (onA cs p=F n):=YJ (by rw[HF.out];exact HE.out)
 have H0':Hid (F 0=0):=YJ (by rw[HF.out];rfl)
 generalize onA cs p=on at*
 clear HT HL HE H0 HF hx hB hcs
 go_enter Tryz.func227,Tryz.ntmps227
 go_wp2
 rw[HV.out]
 go_loopw [4,10] (fun s4 s10 wr=>∃k:Nat,k≤n∧s10= .int .i64 k∧∃m:Nat,s4= .int .i64 m∧m≤k∧Hid (m=F k)∧Below V.heap.size V wr) (fun _ s10 _=>n-(intOf s10).toNat)
 case atStart=>exact⟨0,by omega,rfl,0,rfl,by omega,YJ H0'.out.symm,brf⟩
 case round=>
  obtain⟨k,hk,rfl,m,rfl,hm,Hm,hb⟩:=hrel
  by_cases hlt:k<n
  ·obtain⟨b,off,rfl,hi⟩:=HX.out (by omega)
   obtain⟨e0,e1,e2,e3⟩:=(hi.below hb) k (by omega)
   have ze:=qaC wr _ e0
   simp only at ze
   have hkl:k<cs.length:=by omega
   have HSk:=fun W=>YJ ((HS k hkl W).out)
   have HTk:=YJ ((HT' k hkl).out)
   have HPr:=YJ ((hb.block _ (ah HPb.out)).trans HPb.out)
   obtain⟨p0,p1,p2,p3,_,pz⟩:=am HPr.out
   clear HS HT' HX hi
   generalize cs[k]=x at*
   obtain⟨x0,x1,x2,x3⟩:=x
   simp only at e0 e1 e2 e3
   obtain⟨pa,pb,pc,pd⟩:=p
   simp only at p0 p1 p2 p3
   generalize cw (pa,pb,pc,pd) (x0,x1,x2,x3)=s at*
   go_wp2_with fail
   refine((HSk _).out).mono ?_
   rintro e w1 ⟨rfl,hb1⟩
   have hb2:Below V.heap.size V w1:=fB hb (fB bel hb1)
   clear e0 e1 e2 e3 p0 p1 p2 p3
   by_cases hs:s=0
   ·have hT:=HTk.out
    rw[if_pos hs]at hT
    have HT2:=YJ hT
    clear hT
    subst hs
    go_wp2
    go_roundw
    case rel=>exact⟨k+1,by omega,by go_num,m+1,by go_num,by omega,YJ (by rw[HT2.out,Hm.out]),hb2⟩
    simp[intOf];omega
   ·have hT:=HTk.out
    rw[if_neg hs]at hT
    have HT2:=YJ hT
    have hsb:(s==0)=false:=by simpa using hs
    clear hT
    go_wp2
    go_roundw
    case rel=>exact⟨k+1,by omega,by go_num,m,rfl,by omega,YJ (by rw[HT2.out,Hm.out,Nat.add_zero]),hb2⟩
    simp[intOf];omega
  ·obtain rfl:k=n:=by omega
   have HQ:Hid (on=m):=YJ (by rw[HE'.out,Hm.out])
   go_wp2
   go_ret
   refine⟨ay ?_,fB hV hb⟩
   rw[HQ.out]
   rw[Bool.eq_iff_iff]
   simp
   try omega
theorem KO:∀args w,(callFunc 227 args).run Tryz.prog w= .ok (.enter 227 args) w:=enters_of Tryz.func227 (by kernel_rfl) rfl
def Fsh (B:Nat) (v:Value):Prop:=∀ad n c,v= .slice (some ad) n c→B≤ad.block
theorem Fsh.mono {B C:Nat} {v:Value} (h:Fsh B v) (hc:C≤B):Fsh C v:=fun ad n c e=>qaD hc (h ad n c e)
theorem Fsh.own {w:World} {base:Nat} {e:TypeId} {size n:Nat} {v:Value} {xs:List Value} (h:w.ownsRow base e size v n xs):Fsh base v:=by
 rcases h.2 with⟨rfl,_⟩|⟨g,cap,cur,rfl,hb,_⟩
 ·intro ad n c e;cases e
 ·intro ad n c e;cases e;exact hb
def MR (cv0:Value) (b:Bod) (W:World) (e:Ending) (w':World):Prop:=∃pv cv,e= .returned (.agg #[pv,cv])∧Below W.heap.size W w'∧Q4s w' pv b.1∧Q4s w' cv b.2∧Fsh W.heap.size pv∧cv=cv0
theorem Dh (ps cs:List Q4) (pv cv:Value) (w:World) (hps:∀p∈ps,okW p) (hcs:∀c∈cs,okX c) (h0:0<ps.length) (hl:ps.length≤1000000) (hlc:cs.length≤1000000) (hpv:Q4s w pv ps) (hcv:Q4s w cv cs):
  Calls Tryz.prog 178 #[.agg #[pv,cv]] w (MR cv (nf ps cs,cs) w):=by
 have hfil:nf ps cs=ps.filter fun x=> !decide (onA cs x<3):=by
  unfold nf
  apply List.filter_congr
  intro x _
  rw[Bool.eq_iff_iff];simp
 rw[hfil]
 obtain⟨V,HV⟩:∃V,Hid ((w.alloc (.cells #[pv,cv] 216)).alloc (.cells #[.slice none 0 0, .slice none 0 0] 216)=V):=⟨_,YJ rfl⟩
 have hV:Below w.heap.size w V:=by rw[←HV.out];exact bel
 have hVs:V.heap.size=w.heap.size+2:=by rw[←HV.out];simp
 have HB:Hid (V.heap[w.heap.size]? =some (.cells #[pv,cv] 216 (0,0))):=YJ (by rw[←HV.out];exact(aB (by simp)).trans (ai rfl))
 have HO:Hid (V.heap[w.heap.size+1]? =some (.cells #[.slice none 0 0, .slice none 0 0] 216 (0,0))):=YJ (by rw[←HV.out];exact ai (by simp))
 have HC:=YJ (CJ ps pv V hl (hpv.below hV))
 have HD:=fun g cap w1 (h:V.heap.size≤g) (hb:Below V.heap.size V w1) hown=>YJ (DY ps (fun x=>decide (onA cs x<3)) 227 #[.pointer (some ⟨w.heap.size,0,none⟩)] g ps.length cap V.heap.size w1 rfl hl h0 hown KO (fun x hx w' hg=>by
  have hbw:Below V.heap.size V w':=hb.grown hg hb.size (fun j hj=>by cases hj;exact h)
  exact KN x cs w.heap.size pv cv w' (hps x hx) hcs hlc ((hbw.block _ (ah HB.out)).trans HB.out) ((hcv.below hV).below hbw)))
 obtain⟨pa,pn,pc,rfl, -⟩:=hpv
 have HCV:=YJ hcv
 obtain⟨ca,cn,cc,rfl, -⟩:=hcv
 generalize(ps.filter fun x=> !decide (onA cs x<3))=out at*
 have k0:V.cell? ⟨w.heap.size,0,none⟩=some (.slice pa pn pc):=(bq HB.out 0).trans rfl
 have kz:=ah HB.out
 clear hps hcs hfil
 go_enter Tryz.func178,Tryz.ntmps178
 go_wp2_with fail
 try rw[HV.out]
 go_wp2_with fail
 refine(HC.out).mono ?_
 rintro e w1 ⟨v1,rfl,hb1,hown1⟩
 obtain⟨g,cap,rfl,hg,hgl⟩:=fF hown1 h0
 have HO1:=YJ ((hb1.block _ (ah HO.out)).trans HO.out)
 have HB1:=YJ ((hb1.block _ kz).trans HB.out)
 have HD1:=YJ ((HD g cap w1 hg hb1 hown1).out)
 have hw1:Below w.heap.size w w1:=fB hV hb1
 clear HC HD HB HO k0 kz HV hV hown1
 go_wp2_with fail
 refine(HD1.out).mono ?_
 rintro e w2 ⟨rfl,hg2,hown2⟩
 have HB2:=YJ ((hg2.block _ (ah HB1.out) (by simp;omega)).trans HB1.out)
 have HO2:=YJ ((hg2.block _ (ah HO1.out) (by simp;omega)).trans HO1.out)
 have hw2:Below w.heap.size w w2:=hw1.grown hg2 hw1.size (fun j hj=>by cases hj;omega)
 have Hown:=YJ hown2
 clear hown2 HD1 HB1 HO1 hg2
 generalize hm:out.length=m at*
 have Hm:=YJ hm
 clear hm
 have b0:w2.cell? ⟨w.heap.size,0,none⟩=some (.slice pa pn pc):=(bq HB2.out 0).trans rfl
 have b1:w2.cell? ⟨w.heap.size,1,none⟩=some (.slice ca cn cc):=(bq HB2.out 1).trans rfl
 have bf:=aC HB2.out
 have bz:=ah HB2.out
 have o0:w2.cell? ⟨w.heap.size+1,0,none⟩=some (.slice none 0 0):=(bq HO2.out 0).trans rfl
 have o1:w2.cell? ⟨w.heap.size+1,1,none⟩=some (.slice none 0 0):=(bq HO2.out 1).trans rfl
 have of:=aC HO2.out
 have oz:=ah HO2.out
 go_wp2
 refine bodyPost_ret (v:= .agg #[.slice (some ⟨g,0,none⟩) m cap, .slice ca cn cc]) (by simp[results,Tryz.results178,go_sem,b0,b1,bz,o0,o1,oz]) rfl ⟨_,_,rfl, ?_, ?_, ?_,(fun ad n c h=>by cases h;simp only;omega),rfl⟩
 ·iterate 3 (refine qga ?_ (by first|exact qaA _|exact Nat.le_succ _|(simp;done)|(simp;omega)) _)
  exact hw2
 ·refine jz (base:=V.heap.size) (T:=261) ?_
  rw[Hm.out]
  iterate 3 (refine aF ?_ _ _ (by simp[Value.ownBlock];omega))
  exact Hown.out
 ·refine HCV.out.below ?_
  iterate 3 (refine qga ?_ (by first|exact qaA _|exact Nat.le_succ _|(simp;done)|(simp;omega)) _)
  exact hw2
def BSt (w:World) (pv:Value) (cs:List Q4) (wr:World):Prop:=
 Below w.heap.size w wr∧wr.heap[w.heap.size]? =some (.cells #[.slice none 0 0, .slice none 0 0] 184 (0,0))∧
 ∃cv,wr.heap[w.heap.size+1]? =some (.cells #[pv,cv] 184 (0,0))∧wr.ownsRow (w.heap.size+2) 186 4 cv cs.length (cs.flatMap aH)
theorem BSt.keep {w:World} {pv:Value} {cs:List Q4} {wr w':World} (h:BSt w pv cs wr) (hb:Below wr.heap.size wr w'):BSt w pv cs w':=by
 obtain⟨h1,h2,cv,h3,h4⟩:=h
 exact⟨fB h1 hb,(hb.block _ (ah h2)).trans h2,cv,(hb.block _ (ah h3)).trans h3,au h4 hb⟩
theorem BSt.size {w:World} {pv:Value} {cs:List Q4} {wr:World} (h:BSt w pv cs wr):w.heap.size+2≤wr.heap.size:=by
 obtain⟨_,_,cv,h3,_⟩:=h
 have:=ah h3;omega
theorem pj {w w':World} {bb base g:Nat} {cv:Value} {n:Nat} {xs:List Value} {cs:Array Value} {t:TypeId} (h:Kept2 w w' bb cv.ownBlock) (hown:w.ownsRow base 186 4 cv n xs)
  (hg:w.heap[g]? =some (.cells cs t (0,0))) (hne:g≠bb) (ht:186≠t):w'.heap[g]? =some (.cells cs t (0,0)):=
 (h.block g (ah hg) hne (fun e=>aG hown hg ht e.symm)).trans hg
theorem xx (ps:List Q4) (c:Q4) (pv:Value) (cs:List Q4) (w wr:World) (hps:∀p∈ps,bI p) (hc:fD c) (hl:ps.length≤64) (hn:cs.length≤1000000) (hpv:Q4s w pv ps) (h:BSt w pv cs wr):
  Calls Tryz.prog 199 #[.pointer (some ⟨w.heap.size+1,0,none⟩),v4 c] wr fun e w'=>e= .returned (.tuple #[])∧BSt w pv (cs++if bG ps c then [c]else []) w'∧wr.heap.size≤w'.heap.size∧
   ∀g cells t,w.heap.size+1<g→186≠t→wr.heap[g]? =some (.cells cells t (0,0))→w'.heap[g]? =some (.cells cells t (0,0)):=by
 obtain⟨h1,h2,cv,h3,h4⟩:=h
 have hz:=ah h3
 cases ha:bG ps c with
 |true=>
  refine(xl ps c pv cv _ _ _ _ wr hps hc (by omega) hn h3 (hpv.below h1) h4 (by omega) ha).mono ?_
  rintro e w' ⟨rfl,hk,cv',hb',ho'⟩
  refine⟨rfl,⟨h1.trans (hk.below (by omega) (by omega) (fun k hk=> ?_)),pj hk h4 h2 (by omega) (by decide),cv',hb', ?_⟩,hk.size,fun g cells t hg ht hgb=>pj hk h4 hgb (by omega) ht⟩
  ·obtain⟨h,_⟩:=h4.lt k hk;omega
  ·simpa [aH]using ho'
 |false=>
  refine(yF ps c pv cv _ wr hps hc (by omega) h3 (hpv.below h1) ha).mono ?_
  rintro e w' ⟨rfl,hk⟩
  refine⟨rfl, ?_,hk.size,fun g cells t hg ht hgb=>(hk.block g (ah hgb)).trans hgb⟩
  simpa using(show BSt w pv cs wr from⟨h1,h2,cv,h3,h4⟩).keep hk
theorem qQ (ps:List Q4) (pv:Value) (w:World) (hps:∀p∈ps,bI p) (hl:ps.length≤64) (hpv:Q4s w pv ps):
  Calls Tryz.prog 154 #[pv] w fun e w'=>∃cv,e= .returned (.agg #[pv,cv])∧Below w.heap.size w w'∧w'.ownsRow (w.heap.size+2) 186 4 cv (aS ps).length ((aS ps).flatMap aH):=by
 have Hco:Hid (aS ps=Lib.compact (ed (raw ps ps.length))):=YJ rfl
 generalize aS ps=co at*
 obtain⟨a,n,cc,rfl,hn,hnc,hx⟩:=hpv
 have HPV:Hid (Q4s w (.slice a n cc) ps):=YJ ⟨a,n,cc,rfl,hn,hnc,hx⟩
 have HPS:=YJ hps
 clear hps
 go_enter Tryz.func154,Tryz.ntmps154
 go_wp2
 go_loopw [16] (fun i wr=>∃k:Nat,k≤n∧i= .int .i64 k∧BSt w (.slice a n cc) (raw ps k) wr) (fun i _=>n-(intOf i).toNat)
 case atStart=>exact⟨0,by omega,rfl,bel,(aB (by simp)).trans (ai rfl),_,ai (by simp),qds _ _ _ _⟩
 case round=>
  obtain⟨k,hk,rfl,hst⟩:=hrel
  by_cases hlt:k<n
  ·obtain⟨b,off,rfl,hi⟩:=hx (by omega)
   obtain⟨c0,c1,c2,c3⟩:=(hi.below hst.1) k (by omega)
   have Hok:=YJ (eV HPS.out k (by omega))
   rw[eN k (by omega)]at c0 c1 c2 c3
   obtain⟨P,HP⟩:∃P,Hid (fk ps k=P):=⟨_,YJ rfl⟩
   rw[HP.out]at c0 c1 c2 c3 Hok
   have Hst:=YJ hst
   clear hx hst
   obtain⟨wo,rfl⟩:∃wo:World,wo=wr:=⟨_,rfl⟩
   have HI:=YJ hi
   clear hi
   go_wp2
   go_loopw [25] (fun i wr=>∃j:Nat,j≤k∧i= .int .i64 j∧BSt w (.slice (some ⟨b,off,none⟩) n cc) (raw ps k++gJ ps k j) wr∧Hid (wr.heap[wo.heap.size]? =some (.cells #[.int .i64 P.1, .int .i64 P.2.1, .int .i64 P.2.2.1, .int .i64 P.2.2.2] 190 (0,0)))) (fun i _=>k-(intOf i).toNat)
   case atStart=>exact⟨0,by omega,rfl,by simpa [kd]using Hst.out.keep bel,YJ (ai rfl)⟩
   case round=>
    have zo:=Hst.out.size
    clear Hst c0 c1 c2 c3
    obtain⟨j,hj,rfl,hst,HPb⟩:=hrel
    by_cases hlt2:j<k
    ·obtain⟨c0,c1,c2,c3⟩:=(HI.out.below hst.1) j (by omega)
     have HokQ:=YJ (eV HPS.out j (by omega))
     rw[eN j (by omega)]at c0 c1 c2 c3
     obtain⟨Q,HQ⟩:∃Q,Hid (fk ps j=Q):=⟨_,YJ rfl⟩
     rw[HQ.out]at c0 c1 c2 c3 HokQ
     have Hst:=YJ hst
     clear hst
     obtain⟨wq,rfl⟩:∃wq:World,wq=wr:=⟨_,rfl⟩
     have zq:=ah HPb.out
     have p0:wq.cell? ⟨wo.heap.size,0,none⟩=some (.int .i64 P.1):=(bq HPb.out 0).trans rfl
     have p1:wq.cell? ⟨wo.heap.size,1,none⟩=some (.int .i64 P.2.1):=(bq HPb.out 1).trans rfl
     have p2:wq.cell? ⟨wo.heap.size,2,none⟩=some (.int .i64 P.2.2.1):=(bq HPb.out 2).trans rfl
     have p3:wq.cell? ⟨wo.heap.size,3,none⟩=some (.int .i64 P.2.2.2):=(bq HPb.out 3).trans rfl
     have oP:=Hok.out
     have oQ:=HokQ.out
     simp only[bI]at oP oQ
     go_wp2
     clear c0 c1 c2 c3
     have zo1:wo.heap.size<wq.heap.size+1:=by omega
     apply aj [] [0,1,2,3,4,5] 6 [] [sv _,sv _,sv _,sv _,sv _,⟨yd (wq.alloc (.cells #[.int .i64 Q.1, .int .i64 Q.2.1, .int .i64 Q.2.2.1, .int .i64 Q.2.2.2] 190)).heap.size 191 #[.int .i64 0, .int .i64 0, .int .i64 0],by first|exact stab_po _ _|exact stab_fo _ _|exact stab_co _ _|exact stab_ko _ _|exact stab_kgo _ _|exact ar _ _ _⟩] (by kernel_rfl) (by kernel_rfl)
     ((try go_frame);refine wkQ ?_)
     try go_frame
     refine wkV ?_
     apply ex3
     ·intro u K hK
      go_simp
      refine(Tx _ _ _ _ _).mono ?_
      rintro e w9 ⟨rfl,hb9⟩
      exact hK _ hb9
     rfl
     ((try go_frame);refine wkQ ?_)
     try go_frame
     refine wkV ?_
     apply ex3
     ·intro u K hK
      go_simp
      refine(Tx _ _ _ _ _).mono ?_
      rintro e w9 ⟨rfl,hb9⟩
      exact hK _ hb9
     rfl
     try go_frame
     refine wkV ?_
     apply ex3
     ·intro u K hK
      go_simp
      refine(iw _ _ _ _ _ _ _ (by omega) (by omega) (by omega) (by omega) (by omega) (by omega)).mono ?_
      rintro e w9 ⟨rfl,hb9⟩
      exact hK _ hb9
     rfl
     try go_frame
     refine wkU (fun u hR K hK=> ?_) (fun o5=> ?_)
     ·clear hR
      have zw:=u.size
      go_simp
      exact hK _ _ bel ⟨_,rfl,zw,ai rfl⟩
     try go_frame
     refine aI (fun u hR=> ?_)
     obtain⟨gl,rfl,hgl,Hgl⟩:yd (wq.alloc (.cells #[.int .i64 Q.1, .int .i64 Q.2.1, .int .i64 Q.2.2.1, .int .i64 Q.2.2.2] 190)).heap.size 191 #[.int .i64 0, .int .i64 0, .int .i64 0] o5 u.val:=hR 5 (by simp)
     have hbl:=u.below
     clear hR
     generalize u.val=wl at*
     clear u
     simp only[oas]
     have g0:wl.cell? ⟨gl,0,none⟩=some (.int .i64 0):=(bq Hgl 0).trans rfl
     have g1:wl.cell? ⟨gl,1,none⟩=some (.int .i64 0):=(bq Hgl 1).trans rfl
     have g2:wl.cell? ⟨gl,2,none⟩=some (.int .i64 0):=(bq Hgl 2).trans rfl
     have gf:=aC Hgl
     have Hb:=YJ Hgl
     have HL:Hid (aN (nrm P) (nrm Q)=(P.2.1*Q.2.2.1-P.2.2.1*Q.2.1,P.2.2.1*Q.1-P.1*Q.2.2.1,P.1*Q.2.1-P.2.1*Q.1)):=YJ rfl
     have bL0:=aL oP.2.1 oP.2.2.1 oQ.2.1 oQ.2.2.1
     have bL1:=aL oP.2.2.1 oP.1 oQ.2.2.1 oQ.1
     have bL2:=aL oP.1 oP.2.1 oQ.1 oQ.2.1
     clear Hgl p0 p1 p2 p3
     generalize P.2.1*Q.2.2.1-P.2.2.1*Q.2.1=l0 at*
     generalize P.2.2.1*Q.1-P.1*Q.2.2.1=l1 at*
     generalize P.1*Q.2.1-P.2.1*Q.1=l2 at*
     try go_frame
     iterate 1 (refine wpList_step (fun K hK=> ?_);go_simp;refine hK _ _ ?_;clear hK K)
     refine NoPanic.normal ?_
     have hv:=kL l0 l1 l2 0 0 0
     obtain⟨wm,Hwm⟩:∃wm,Hid (((wl.setCell ⟨gl,0,none⟩ (.int .i64 l0)).setCell ⟨gl,1,none⟩ (.int .i64 l1)).setCell ⟨gl,2,none⟩ (.int .i64 l2)=wm):=⟨_,YJ rfl⟩
     have hbm:Below (wq.alloc (.cells #[.int .i64 Q.1, .int .i64 Q.2.1, .int .i64 Q.2.2.1, .int .i64 Q.2.2.2] 190)).heap.size (wq.alloc (.cells #[.int .i64 Q.1, .int .i64 Q.2.1, .int .i64 Q.2.2.1, .int .i64 Q.2.2.2] 190)) wm:=by
      rw[←Hwm.out];exact((hbl.setCell hgl _).setCell hgl _).setCell hgl _
     have Hst1:Hid (BSt w (.slice (some ⟨b,off,none⟩) n cc) (raw ps k++gJ ps k j) wm):=YJ ((Hst.out.keep bel).keep hbm)
     have HP1:Hid (wm.heap[wo.heap.size]? =some (.cells #[.int .i64 P.1, .int .i64 P.2.1, .int .i64 P.2.2.1, .int .i64 P.2.2.2] 190 (0,0))):=YJ ((hbm.block _ (by simp;omega)).trans ((aB zq).trans HPb.out))
     have HQ1:Hid (wm.heap[wq.heap.size]? =some (.cells #[.int .i64 Q.1, .int .i64 Q.2.1, .int .i64 Q.2.2.1, .int .i64 Q.2.2.2] 190 (0,0))):=YJ ((hbm.block _ (by simp)).trans (ai rfl))
     have Hl:Hid (wm.heap[gl]? =some (.cells #[.int .i64 l0, .int .i64 l1, .int .i64 l2] 191 (0,0))):=by rw[←Hwm.out];exact YJ (Tu (Tu (Tu Hb.out 0 _) 1 _) 2 _)
     have zg:wq.heap.size+1≤gl:=by simpa using hgl
     rw[Hwm.out]
     clear Hst hbl hbm g0 g1 g2 gf Hb Hwm HPb hgl
     have e0:wm.cell? ⟨gl,0,none⟩=some (.int .i64 l0):=(bq Hl.out 0).trans rfl
     have e1:wm.cell? ⟨gl,1,none⟩=some (.int .i64 l1):=(bq Hl.out 1).trans rfl
     have e2:wm.cell? ⟨gl,2,none⟩=some (.int .i64 l2):=(bq Hl.out 2).trans rfl
     have Hsum:=YJ (jZ ps k j)
     by_cases hz:l0=0∧l1=0∧l2=0
     ·have hb0:(l0==0&&l1==0&&l2==0)=true:=by simp[hz]
      have Hz:=YJ hz
      rw[hb0]at hv
      clear hz hb0
      go_wp2
      go_roundw
      case rel=>exact⟨j+1,by omega,by go_num,by rw[Hsum.out,sO ps k j j (by rw[HP.out,HQ.out,HL.out,Hz.out.1,Hz.out.2.1,Hz.out.2.2])];simpa using Hst1.out,HP1⟩
      simp[intOf];omega
     ·have hb0:(l0==0&&l1==0&&l2==0)=false:=by rw[Bool.eq_false_iff];simp;omega
      rw[hb0]at hv
      clear hb0
      go_wp2
      go_loopw [42] (fun i wr=>∃m:Nat,m≤j∧i= .int .i64 m∧BSt w (.slice (some ⟨b,off,none⟩) n cc) (raw ps k++gJ ps k j++gI ps k j m) wr∧Hid (wr.heap[wo.heap.size]? =some (.cells #[.int .i64 P.1, .int .i64 P.2.1, .int .i64 P.2.2.1, .int .i64 P.2.2.2] 190 (0,0)))∧Hid (wr.heap[wq.heap.size]? =some (.cells #[.int .i64 Q.1, .int .i64 Q.2.1, .int .i64 Q.2.2.1, .int .i64 Q.2.2.2] 190 (0,0)))∧Hid (wr.heap[gl]? =some (.cells #[.int .i64 l0, .int .i64 l1, .int .i64 l2] 191 (0,0)))) (fun i _=>j-(intOf i).toNat)
      case atStart=>exact⟨0,by omega,rfl,by simpa [iz]using Hst1.out,HP1,HQ1,Hl⟩
      case round=>
       clear e0 e1 e2 Hst1 HP1 HQ1 Hl hv hz
       obtain⟨m,hm,rfl,hst,HP1,HQ1,Hl⟩:=hrel
       by_cases hlt3:m<j
       ·obtain⟨c0,c1,c2,c3⟩:=(HI.out.below hst.1) m (by omega)
        have HokR:=YJ (eV HPS.out m (by omega))
        rw[eN m (by omega)]at c0 c1 c2 c3
        obtain⟨R,HR⟩:∃R,Hid (fk ps m=R):=⟨_,YJ rfl⟩
        rw[HR.out]at c0 c1 c2 c3 HokR
        have Hst:=YJ hst
        clear hst
        obtain⟨wz,rfl⟩:∃wz:World,wz=wr:=⟨_,rfl⟩
        have zP:=ah HP1.out
        have zQ:=ah HQ1.out
        have zL:=ah Hl.out
        have e0:wz.cell? ⟨gl,0,none⟩=some (.int .i64 l0):=(bq Hl.out 0).trans rfl
        have e1:wz.cell? ⟨gl,1,none⟩=some (.int .i64 l1):=(bq Hl.out 1).trans rfl
        have e2:wz.cell? ⟨gl,2,none⟩=some (.int .i64 l2):=(bq Hl.out 2).trans rfl
        have oR:=HokR.out
        simp only[bI]at oR
        go_wp2
        clear c0 c1 c2 c3
        have zL1:gl<wz.heap.size+1:=by omega
        refine wqb ?_
        repeat(first|go_big_quiet_step ((first|(go_at_call 104;exact aE (Tx _ _ _ _ _))|(go_at_call 105;exact aE (Ud _ _ _ _ _ _ _ (by omega) (by omega) (by omega) (by omega) (by omega) (by omega)))))|quiet_step ((first|(go_at_call 104;exact aE (Tx _ _ _ _ _))|(go_at_call 105;exact aE (Ud _ _ _ _ _ _ _ (by omega) (by omega) (by omega) (by omega) (by omega) (by omega))))))
        refine wqn fun u=> ?_
        have Hden:Hid (bN P Q R=l0*R.1+l1*R.2.1+l2*R.2.2.1):=YJ (by show bj (aN (nrm P) (nrm Q)) (nrm R)=_;rw[HL.out];rfl)
        have bden:=lV P Q R Hok.out HokQ.out HokR.out
        rw[Hden.out]at bden
        have Hst1:Hid (BSt w (.slice (some ⟨b,off,none⟩) n cc) (raw ps k++gJ ps k j++gI ps k j m) u.val):=YJ (Hst.out.keep (fB bel u.below))
        have HP2:Hid (u.val.heap[wo.heap.size]? =some (.cells #[.int .i64 P.1, .int .i64 P.2.1, .int .i64 P.2.2.1, .int .i64 P.2.2.2] 190 (0,0))):=YJ ((u.below.block _ (by simp;omega)).trans ((aB zP).trans HP1.out))
        have HQ2:Hid (u.val.heap[wq.heap.size]? =some (.cells #[.int .i64 Q.1, .int .i64 Q.2.1, .int .i64 Q.2.2.1, .int .i64 Q.2.2.2] 190 (0,0))):=YJ ((u.below.block _ (by simp;omega)).trans ((aB zQ).trans HQ1.out))
        have Hl2:Hid (u.val.heap[gl]? =some (.cells #[.int .i64 l0, .int .i64 l1, .int .i64 l2] 191 (0,0))):=YJ ((u.below.block _ (by simp;omega)).trans ((aB zL).trans Hl.out))
        have HR2:Hid (u.val.heap[wz.heap.size]? =some (.cells #[.int .i64 R.1, .int .i64 R.2.1, .int .i64 R.2.2.1, .int .i64 R.2.2.2] 190 (0,0))):=YJ ((u.below.block _ (by simp)).trans (ai rfl))
        have Hraw:=YJ (gq ps k j m)
        have Hr1:Hid (jo ps k j m=if bN P Q R=0 then []else if bG ps (TB P Q R (bN P Q R))then [TB P Q R (bN P Q R)]else []):=YJ (by unfold jo;rw[HP.out,HQ.out,HR.out])
        clear e0 e1 e2 Hst HP1 HQ1 Hl oR
        rw[Hden.out]at Hr1
        generalize l0*R.1+l1*R.2.1+l2*R.2.2.1=den at*
        by_cases hd0:den=0
        ·have Hd0:=YJ hd0
         have hdb:(den !=0)=false:=by simp[hd0]
         clear hd0
         go_wp2
         go_roundw
         case rel=>exact⟨m+1,by omega,by go_num,by rw[Hraw.out,Hr1.out,if_pos Hd0.out];simpa using Hst1.out,HP2,HQ2,Hl2⟩
         simp[intOf];omega
        ·have hdb:(den !=0)=true:=by simpa using hd0
         have p0:u.val.cell? ⟨wo.heap.size,0,none⟩=some (.int .i64 P.1):=(bq HP2.out 0).trans rfl
         have p1:u.val.cell? ⟨wo.heap.size,1,none⟩=some (.int .i64 P.2.1):=(bq HP2.out 1).trans rfl
         have p2:u.val.cell? ⟨wo.heap.size,2,none⟩=some (.int .i64 P.2.2.1):=(bq HP2.out 2).trans rfl
         have p3:u.val.cell? ⟨wo.heap.size,3,none⟩=some (.int .i64 P.2.2.2):=(bq HP2.out 3).trans rfl
         have q0:u.val.cell? ⟨wq.heap.size,0,none⟩=some (.int .i64 Q.1):=(bq HQ2.out 0).trans rfl
         have q1:u.val.cell? ⟨wq.heap.size,1,none⟩=some (.int .i64 Q.2.1):=(bq HQ2.out 1).trans rfl
         have q2:u.val.cell? ⟨wq.heap.size,2,none⟩=some (.int .i64 Q.2.2.1):=(bq HQ2.out 2).trans rfl
         have q3:u.val.cell? ⟨wq.heap.size,3,none⟩=some (.int .i64 Q.2.2.2):=(bq HQ2.out 3).trans rfl
         have r0:u.val.cell? ⟨wz.heap.size,0,none⟩=some (.int .i64 R.1):=(bq HR2.out 0).trans rfl
         have r1:u.val.cell? ⟨wz.heap.size,1,none⟩=some (.int .i64 R.2.1):=(bq HR2.out 1).trans rfl
         have r2:u.val.cell? ⟨wz.heap.size,2,none⟩=some (.int .i64 R.2.2.1):=(bq HR2.out 2).trans rfl
         have r3:u.val.cell? ⟨wz.heap.size,3,none⟩=some (.int .i64 R.2.2.2):=(bq HR2.out 3).trans rfl
         have bl:(raw ps k++gJ ps k j++gI ps k j m).length≤1000000:=by
          have:=jp ps k (by omega);have:=lU ps k j (by omega);have:=lT ps k j m
          simp only[qaE];omega
         go_wp2_with fail
         refine(oV P Q R den _ Hok.out HokQ.out HokR.out (by omega) hd0).mono ?_
         rintro e wy ⟨rfl,hby⟩
         clear p0 p1 p2 p3 q0 q1 q2 q3 r0 r1 r2 r3
         go_wp2_with fail
         refine(xx ps _ _ _ w wy HPS.out (lW P Q R den Hok.out HokQ.out HokR.out (by omega) hd0) hl bl HPV.out (Hst1.out.keep hby)).mono ?_
         rintro e wx ⟨rfl,hst2,hsz2,hkeep⟩
         have Hst2:=YJ hst2
         have Hk2:=YJ hkeep
         clear hst2 hkeep
         go_wp2
         go_roundw
         case rel=>exact⟨m+1,by omega,by go_num,by rw[Hraw.out,Hr1.out,if_neg hd0];simpa using Hst2.out,YJ (Hk2.out _ _ _ (by omega) (by decide) ((hby.block _ (ah HP2.out)).trans HP2.out)),YJ (Hk2.out _ _ _ (by omega) (by decide) ((hby.block _ (ah HQ2.out)).trans HQ2.out)),YJ (Hk2.out _ _ _ (by omega) (by decide) ((hby.block _ (ah Hl2.out)).trans Hl2.out))⟩
         simp[intOf];omega
       ·go_wp2
        go_roundw
        case rel=>exact⟨j+1,by omega,by go_num,by rw[Hsum.out];obtain rfl:m=j:=(by omega);simpa using hst,HP1⟩
        simp[intOf];omega
    ·obtain rfl:j=k:=by omega
     have Hsum:=YJ (lS ps j)
     have Hst:=YJ hst
     clear hst
     go_wp2
     go_roundw
     case rel=>exact⟨j+1,by omega,by go_num,by rw[Hsum.out];exact Hst.out⟩
     simp[intOf];omega
  ·obtain rfl:k=n:=by omega
   obtain⟨h1,h2,cv,h3,h4⟩:=hst
   have k1:wr.cell? ⟨w.heap.size+1,1,none⟩=some cv:=(bq h3 1).trans rfl
   have z1:=ah h3
   have Hst:=YJ (And.intro h1 (And.intro h2 (And.intro h3 h4)))
   clear hx h1 h2 h3 h4
   subst hn
   have Hrn:=YJ (iD ps HPS.out ps.length (qaA _))
   have Hrl:=YJ (jp ps ps.length hl)
   go_wp2_with fail
   refine(uW (raw ps ps.length) Hrn.out _ _ cv wr rfl (by have:=Hrl.out;omega) Hst.out.2.2.2).mono ?_
   rintro e w1 ⟨rfl,hown1,hg1⟩
   have hne1:some (w.heap.size+1)≠cv.ownBlock:=fun e=>aG Hst.out.2.2.2 Hst.out.2.2.1 (by decide) e.symm
   have hne0:some w.heap.size≠cv.ownBlock:=fun e=>aG Hst.out.2.2.2 Hst.out.2.1 (by decide) e.symm
   have b1:w1.heap[w.heap.size+1]? =some (.cells #[.slice a ps.length cc,cv] 184 (0,0)):=(hg1.block _ z1 hne1).trans Hst.out.2.2.1
   have b0:w1.heap[w.heap.size]? =some (.cells #[.slice none 0 0, .slice none 0 0] 184 (0,0)):=(hg1.block _ (ah Hst.out.2.1) hne0).trans Hst.out.2.1
   have hbw1:Below w.heap.size w w1:=Hst.out.1.grown hg1 Hst.out.1.size (fun j hj=>by obtain⟨h,_⟩:=Hst.out.2.2.2.lt j hj;omega)
   have k2:w1.cell? ⟨w.heap.size+1,1,none⟩=some cv:=(bq b1 1).trans rfl
   have Ho1:=YJ hown1
   have Hb0:=YJ b0
   have Hb1:=YJ b1
   clear Hst k1 z1 hg1 hown1 b0 b1 hne0 hne1
   go_wp2_with fail
   refine(pi (ed (raw ps ps.length)) _ _ cv w1 (ni _) (by have:=Hrl.out;omega) Ho1.out).mono ?_
   rintro e w2 ⟨cv',rfl,hg2,⟨a',m',c',rfl⟩,hown2⟩
   have hne1:some (w.heap.size+1)≠cv.ownBlock:=fun e=>aG Ho1.out Hb1.out (by decide) e.symm
   have hne0:some w.heap.size≠cv.ownBlock:=fun e=>aG Ho1.out Hb0.out (by decide) e.symm
   have b1:w2.heap[w.heap.size+1]? =some (.cells #[.slice a ps.length cc,cv] 184 (0,0)):=(hg2.block _ (ah Hb1.out) hne1).trans Hb1.out
   have b0:w2.heap[w.heap.size]? =some (.cells #[.slice none 0 0, .slice none 0 0] 184 (0,0)):=(hg2.block _ (ah Hb0.out) hne0).trans Hb0.out
   have hbw2:Below w.heap.size w w2:=hbw1.grown hg2 hbw1.size (fun j hj=>by obtain⟨h,_⟩:=Ho1.out.lt j hj;omega)
   have k0:w2.cell? ⟨w.heap.size+1,0,none⟩=some (.slice a ps.length cc):=(bq b1 0).trans rfl
   have k3:w2.cell? ⟨w.heap.size+1,1,none⟩=some cv:=(bq b1 1).trans rfl
   have f1:=aC b1
   have r0:w2.cell? ⟨w.heap.size,0,none⟩=some (.slice none 0 0):=(bq b0 0).trans rfl
   have r1:w2.cell? ⟨w.heap.size,1,none⟩=some (.slice none 0 0):=(bq b0 1).trans rfl
   have f0:=aC b0
   rw[←Hco.out]at hown2
   have Ho2:=YJ hown2
   have hfar1:=YJ (fun e=>aG hown2 b1 (by decide) e.symm:some (w.heap.size+1)≠(Value.slice a' m' c').ownBlock)
   have hfar0:=YJ (fun e=>aG hown2 b0 (by decide) e.symm:some w.heap.size≠(Value.slice a' m' c').ownBlock)
   clear hown2 b0 b1 hg2 Ho1 Hb0 Hb1 k2 hbw1 hne0 hne1
   go_wp2
   refine bodyPost_ret (v:= .agg #[.slice a ps.length cc, .slice a' m' c']) (by simp[results,Tryz.results154,go_sem,r0,r1]) rfl ⟨_,rfl, ?_, ?_⟩
   ·exact((hbw2.setCell (by simp) _).setCell (by simp) _).setCell (by simp) _
   ·exact aF (aF (aF Ho2.out _ _ hfar1.out) _ _ hfar0.out) _ _ hfar0.out
end
section
open Go.RowKit Go.Shelf Go.Sort Go.Lib
attribute [local go_sem] Ext.cell Ext.frozen
def gM (cs:List Q4) (p:Q4):Bool:=cs.any fun c=>decide (sd p c<0)
def fh (ps cs:List Q4):Bool:=ps.all (gM cs)&&decide (0<ps.length)
theorem lC (p c:Q4) (b:Nat) (w:World) (hp:bI p) (hc:fD c) (h0:w.cell? ⟨b,0,none⟩=some (.int .i64 p.1)) (h1:w.cell? ⟨b,1,none⟩=some (.int .i64 p.2.1)) (h2:w.cell? ⟨b,2,none⟩=some (.int .i64 p.2.2.1)) (h3:w.cell? ⟨b,3,none⟩=some (.int .i64 p.2.2.2)):
  Calls Tryz.prog 156 #[v4 c, .pointer (some ⟨b,0,none⟩)] w (Ret w (.bool (decide (sd p c<0)))):=by
 have hs:=fun W=>YJ (qI p c W hp hc)
 have hlt:=qaC w _ h0
 go_enter Tryz.func156,Tryz.ntmps156
 go_wp2_with fail
 refine((hs _).out).mono ?_
 rintro e w1 ⟨rfl,hb1⟩
 go_wp2
 go_ret
 exact⟨rfl,fB bel hb1⟩
theorem sW:∀args w,(callFunc 156 args).run Tryz.prog w= .ok (.enter 156 args) w:=enters_of Tryz.func156 (by kernel_rfl) rfl
theorem qR (p c:Q4) (b:Nat) (w:World) (hp:bI p) (hc:fD c) (hb:w.heap[b]? =some (.cells #[.int .i64 p.1, .int .i64 p.2.1, .int .i64 p.2.2.1, .int .i64 p.2.2.2] 190 (0,0))):
  gH Tryz.prog 156 #[.pointer (some ⟨b,0,none⟩)] w (v4 c) (decide (sd p c<0)):=
 fun _ hw=>lC p c b _ hp hc (ab hw ((bq hb 0).trans rfl)) (ab hw ((bq hb 1).trans rfl)) (ab hw ((bq hb 2).trans rfl)) (ab hw ((bq hb 3).trans rfl))
theorem pk (ps cs:List Q4) (pv cv:Value) (w:World) (hps:∀p∈ps,bI p) (hcs:∀c∈cs,fD c) (hl:ps.length≤1000000) (hlc:cs.length≤1000000) (hpv:Q4s w pv ps) (hcv:Q4s w cv cs):
  Calls Tryz.prog 110 #[.agg #[pv,cv]] w (Ret w (.bool (fh ps cs))):=by
 obtain⟨a,n,cc,rfl,hn,hnc,hx⟩:=hpv
 obtain⟨a',n',cc',rfl,hn',hnc',hx'⟩:=hcv
 have HCV:Hid (Q4s w (.slice a' n' cc') cs):=YJ ⟨a',n',cc',rfl,hn',hnc',hx'⟩
 have HPS:=YJ hps
 have HCS:=YJ hcs
 have Hyes:Hid ((∀i (h:i<ps.length),gM cs ps[i]=true)→fh ps cs=decide (0<ps.length)):=YJ (fun h=>by
  have:ps.all (gM cs)=true:=by rw[alsi];intro x hx;obtain⟨i,hi,rfl⟩:=qaJ hx;exact h i hi
  simp[fh,this])
 have Hno:Hid (∀i (h:i<ps.length),gM cs ps[i]=false→fh ps cs=false):=YJ (fun i hi h=>by
  have:ps.all (gM cs)=false:=by rw[List.all_eq_false];exact⟨_,qaB hi,by simp[h]⟩
  simp[fh,this])
 clear hps hcs hx'
 go_enter Tryz.func110,Tryz.ntmps110
 go_wp2
 go_loopw [8] (fun i wr=>∃k:Nat,k≤n∧i= .int .i64 k∧Below w.heap.size w wr∧Hid (wr.heap[w.heap.size]? =some (.cells #[.slice a n cc, .slice a' n' cc'] 184 (0,0)))∧Hid (∀i (h:i<ps.length),i<k→gM cs ps[i]=true)) (fun i _=>n-(intOf i).toNat)
 case atStart=>exact⟨0,by omega,rfl,bel,YJ (ai rfl),YJ (fun i _ h=>by omega)⟩
 case round=>
  obtain⟨k,hk,rfl,hb,HB,Hz⟩:=hrel
  have zB:=ah HB.out
  by_cases hlt:k<n
  ·obtain⟨b,off,rfl,hi⟩:=hx (by omega)
   obtain⟨c0,c1,c2,c3⟩:=(hi.below hb) k (by omega)
   have Hok:=YJ (HPS.out (ps[k]) (by simp))
   have Hnk:=YJ (Hno.out k (by omega))
   obtain⟨p,Hp⟩:∃p,Hid (ps[k]=p):=⟨_,YJ rfl⟩
   rw[Hp.out]at c0 c1 c2 c3 Hok Hnk
   have k1:wr.cell? ⟨w.heap.size,1,none⟩=some (.slice a' n' cc'):=(bq HB.out 1).trans rfl
   obtain⟨W,HW⟩:∃W,Hid (W=wr.alloc (.cells #[.int .i64 p.1, .int .i64 p.2.1, .int .i64 p.2.2.1, .int .i64 p.2.2.2] 190)):=⟨_,YJ rfl⟩
   have hbW:Below wr.heap.size wr W:=by rw[HW.out];exact bel
   have hblk:W.heap[wr.heap.size]? =some (.cells #[.int .i64 p.1, .int .i64 p.2.1, .int .i64 p.2.2.1, .int .i64 p.2.2.2] 190 (0,0)):=by rw[HW.out];exact ai rfl
   have hcon:=fo (.slice a' n' cc') cs (fun c=>decide (sd p c<0)) _ _ W ((HCV.out.below hb).below hbW) (by omega) sW (fun c hc=>qR p c _ W Hok.out (HCS.out c hc) hblk)
   have hin:(cs.any fun c=>decide (sd p c<0))=gM cs p:=rfl
   rw[hin,HW.out]at hcon
   have Hcon:=YJ hcon
   clear hcon hin hblk hbW hx hi
   cases hib:gM cs p with
   |true=>
    have Hib:=YJ hib
    rw[hib]at Hcon
    clear hib HW
    go_wp2_with fail
    refine(Hcon.out).mono ?_
    rintro e w1 ⟨rfl,hb1⟩
    go_wp2
    go_roundw
    case rel=>exact⟨k+1,by omega,by go_num,fB hb (fB bel hb1),YJ ((hb1.block _ (by simp;omega)).trans ((aB zB).trans HB.out)),YJ (fun i hi hik=>by
     by_cases e:i=k
     ·subst e;rw[Hp.out];exact Hib.out
     ·exact Hz.out i hi (by omega))⟩
    simp[intOf];omega
   |false=>
    have Hib:=YJ hib
    rw[hib]at Hcon
    clear hib HW
    go_wp2_with fail
    refine(Hcon.out).mono ?_
    rintro e w1 ⟨rfl,hb1⟩
    go_wp2
    go_ret
    exact⟨ay (Hnk.out Hib.out).symm,fB hb (fB bel hb1)⟩
  ·have Hy:=YJ (Hyes.out (fun i hi=>Hz.out i hi (by omega)))
   have k0:wr.cell? ⟨w.heap.size,0,none⟩=some (.slice a n cc):=(bq HB.out 0).trans rfl
   clear hx
   go_wp2
   go_ret
   exact⟨ay (by rw[Hy.out,hn]),hb⟩
theorem dx (p q:Q4):bD p q<0↔p.1<q.1∨(p.1=q.1∧(p.2.1<q.2.1∨(p.2.1=q.2.1∧(p.2.2.1<q.2.2.1∨(p.2.2.1=q.2.2.1∧p.2.2.2<q.2.2.2))))):=by
 unfold bD
 rw[uP,dp,dq,dp,dq,dp,dq,dp]
theorem sX (x y:Q4):ltOf bD x y=decide (bD x y<0):=rfl
theorem yB (x y:Q4) (h1:ltOf bD x y=false) (h2:ltOf bD y x=false):x=y:=by
 rw[sX,decide_eq_false_iff_not,dx]at h1 h2
 obtain⟨a,b,c,d⟩:=x
 obtain⟨a',b',c',d'⟩:=y
 simp only at h1 h2
 have:a=a'∧b=b'∧c=c'∧d=d':=by omega
 obtain⟨rfl,rfl,rfl,rfl⟩:=this
 rfl
theorem mh (x:Q4):∀v∈aH x,v.oneCell'=true:=fun v hv=>by simp[aH]at hv;rcases hv with rfl|rfl|rfl|rfl<;>rfl
def iP (ps:List Q4):List Q4:=ps.mergeSort (fun x y=> !decide (bD y x<0))
def onB (cs:List Q4) (p:Q4):Bool:=decide (3≤cQ p cs)
def iZ (cs ps:List Q4):List Q4:=(ps.filter (onB cs)).map dG
def Sp (ps cs:List Q4):List Q4:=Lib.compact (iP (iZ cs ps))
theorem sk (cs ps:List Q4) (k:Nat):(iZ cs (ps.take k)).length≤k:=by
 unfold iZ
 rw[qdo]
 exact qaD (qdz _ _) (by simp;omega)
theorem cY:(Tryz.prog.info? 190).map (fun i=>(i.zero,i.size,i.bytes))=some (some (v4 (0,0,0,0)),4,32):=by kernel_rfl
def cI (p:Q4):Prop:=bI p∧(p.1≠0∨p.2.1≠0∨p.2.2.1≠0)
end
section
open Go.RowKit Go.Shelf
attribute [local go_sem] Ext.cell Ext.frozen
set_option maxRecDepth 100000
def dJ (ps:List Q4) (i k:Nat):Q3:=aN (nrm (fk ps i)) (nrm (fk ps k))
def nzB (l:Q3):Bool:=decide (l≠(0,0,0))
def mR (ps:List Q4) (l:Q3) (m:Nat):Bool:=(ps.take m).any fun r=>decide (0<bj l (nrm r))
def mS (ps:List Q4) (l:Q3) (m:Nat):Bool:=(ps.take m).any fun r=>decide (bj l (nrm r)<0)
def ij (ps:List Q4) (i k:Nat):Bool:= !nzB (dJ ps i k) || (mR ps (dJ ps i k) ps.length&&mS ps (dJ ps i k) ps.length)
def Rq (ps:List Q4) (i k:Nat):Bool:=(List.range k).any fun k=>nzB (dJ ps i k)
def jw (ps:List Q4) (i:Nat):Bool:=(List.range i).any fun i=>Rq ps i i
def bx (ps:List Q4):Bool:=((List.range ps.length).all fun i=>(List.range i).all fun k=>ij ps i k)&&jw ps ps.length
theorem qT (ps:List Q4) (i k:Nat):Rq ps i (k+1)=(Rq ps i k || nzB (dJ ps i k)):=by simp[Rq,List.range_succ]
theorem qU (ps:List Q4) (i:Nat):jw ps (i+1)=(jw ps i || Rq ps i i):=by simp[jw,List.range_succ]
theorem Bv (ps:List Q4) (l:Q3) (m:Nat) (h:m<ps.length):mR ps l (m+1)=(mR ps l m || decide (0<bj l (nrm (fk ps m)))):=by
 unfold mR
 rw[qaI h,List.any_append,eN m h]
 simp
theorem Bw (ps:List Q4) (l:Q3) (m:Nat) (h:m<ps.length):mS ps l (m+1)=(mS ps l m || decide (bj l (nrm (fk ps m))<0)):=by
 unfold mS
 rw[qaI h,List.any_append,eN m h]
 simp
theorem EI (ps:List Q4) (i k:Nat) (hi:i<ps.length) (hk:k<i) (h:ij ps i k=false):bx ps=false:=by
 have:((List.range ps.length).all fun i=>(List.range i).all fun k=>ij ps i k)=false:=by
  rw[List.all_eq_false]
  refine⟨i,by simpa using hi, ?_⟩
  rw[Bool.not_eq_true,List.all_eq_false]
  exact⟨k,by simpa using hk,by simp[h]⟩
 simp[bx,this]
theorem nU (ps:List Q4) (h:∀i k,i<ps.length→k<i→ij ps i k=true):bx ps=jw ps ps.length:=by
 have:((List.range ps.length).all fun i=>(List.range i).all fun k=>ij ps i k)=true:=by
  rw[alsi]
  intro i hi
  rw[alsi]
  intro k hk
  exact h i k (by simpa using hi) (by simpa using hk)
 simp[bx,this]
theorem YO (ps:List Q4) (pv:Value) (w:World) (hps:∀p∈ps,bI p) (hl:ps.length≤1000000) (hpv:Q4s w pv ps):
  Calls Tryz.prog 192 #[pv] w (Ret w (.bool (bx ps))):=by
 obtain⟨a,n,cc,rfl,hn,hnc,hx⟩:=hpv
 have HPS:=YJ hps
 have Hbad:=YJ (EI ps)
 have Hgood:=YJ (nU ps)
 generalize bx ps=res at*
 clear hps
 go_enter Tryz.func192,Tryz.ntmps192
 go_wp2
 go_loopw [3,16] (fun s3 i wr=>∃k:Nat,k≤n∧i= .int .i64 k∧s3= .bool (jw ps k)∧Below w.heap.size w wr∧Hid (∀i j,i<k→j<i→ij ps i j=true)) (fun _ i _=>n-(intOf i).toNat)
 case atStart=>exact⟨0,by omega,rfl,rfl,brf,YJ (fun i j h=>by omega)⟩
 case round=>
  obtain⟨k,hk,rfl,rfl,hbk,Hgk⟩:=hrel
  by_cases hlt:k<n
  ·obtain⟨b,off,rfl,hi⟩:=hx (by omega)
   obtain⟨c0,c1,c2,c3⟩:=(hi.below hbk) k (by omega)
   have Hok:=YJ (eV HPS.out k (by omega))
   rw[eN k (by omega)]at c0 c1 c2 c3
   obtain⟨P,HP⟩:∃P,Hid (fk ps k=P):=⟨_,YJ rfl⟩
   rw[HP.out]at c0 c1 c2 c3 Hok
   clear hx
   obtain⟨wo,rfl⟩:∃wo:World,wo=wr:=⟨_,rfl⟩
   have HI:=YJ hi
   clear hi
   go_wp2
   clear c0 c1 c2 c3
   go_loopw [3,25] (fun s3 i wr=>∃j:Nat,j≤k∧i= .int .i64 j∧s3= .bool (jw ps k || Rq ps k j)∧Below w.heap.size w wr∧Hid (wr.heap[wo.heap.size]? =some (.cells #[.int .i64 P.1, .int .i64 P.2.1, .int .i64 P.2.2.1, .int .i64 P.2.2.2] 190 (0,0)))∧Hid (∀i,i<j→ij ps k i=true)) (fun _ i _=>k-(intOf i).toNat)
   case atStart=>exact⟨0,by omega,rfl,by simp[Rq],fB hbk bel,YJ (ai rfl),YJ (fun i h=>by omega)⟩
   case round=>
    clear hbk
    obtain⟨j,hj,rfl,rfl,hb,HPb,Hgj⟩:=hrel
    by_cases hlt2:j<k
    ·obtain⟨c0,c1,c2,c3⟩:=(HI.out.below hb) j (by omega)
     have HokQ:=YJ (eV HPS.out j (by omega))
     rw[eN j (by omega)]at c0 c1 c2 c3
     obtain⟨Q,HQ⟩:∃Q,Hid (fk ps j=Q):=⟨_,YJ rfl⟩
     rw[HQ.out]at c0 c1 c2 c3 HokQ
     obtain⟨wq,rfl⟩:∃wq:World,wq=wr:=⟨_,rfl⟩
     have zq:=ah HPb.out
     have p0:wq.cell? ⟨wo.heap.size,0,none⟩=some (.int .i64 P.1):=(bq HPb.out 0).trans rfl
     have p1:wq.cell? ⟨wo.heap.size,1,none⟩=some (.int .i64 P.2.1):=(bq HPb.out 1).trans rfl
     have p2:wq.cell? ⟨wo.heap.size,2,none⟩=some (.int .i64 P.2.2.1):=(bq HPb.out 2).trans rfl
     have p3:wq.cell? ⟨wo.heap.size,3,none⟩=some (.int .i64 P.2.2.2):=(bq HPb.out 3).trans rfl
     have oP:=Hok.out
     have oQ:=HokQ.out
     simp only[bI]at oP oQ
     have Hline:Hid (dJ ps k j=aN (nrm P) (nrm Q)):=YJ (by unfold dJ;rw[HP.out,HQ.out])
     have Hfi:=YJ (qT ps k j)
     obtain⟨F,HF⟩:∃F,Hid ((jw ps k || Rq ps k j)=F):=⟨_,YJ rfl⟩
     rw[HF.out]
     go_wp2
     clear c0 c1 c2 c3
     have zo1:wo.heap.size<wq.heap.size+1:=by omega
     apply aj [] [0,1,2,3,4,5] 6 [] [sv _,sv _,sv _,sv _,sv _,⟨yd (wq.alloc (.cells #[.int .i64 Q.1, .int .i64 Q.2.1, .int .i64 Q.2.2.1, .int .i64 Q.2.2.2] 190)).heap.size 191 #[.int .i64 0, .int .i64 0, .int .i64 0],by first|exact stab_po _ _|exact stab_fo _ _|exact stab_co _ _|exact stab_ko _ _|exact stab_kgo _ _|exact ar _ _ _⟩] (by kernel_rfl) (by kernel_rfl)
     ((try go_frame);refine wkQ ?_)
     try go_frame
     refine wkV ?_
     apply ex3
     ·intro u K hK
      go_simp
      refine(Tx _ _ _ _ _).mono ?_
      rintro e w9 ⟨rfl,hb9⟩
      exact hK _ hb9
     rfl
     ((try go_frame);refine wkQ ?_)
     try go_frame
     refine wkV ?_
     apply ex3
     ·intro u K hK
      go_simp
      refine(Tx _ _ _ _ _).mono ?_
      rintro e w9 ⟨rfl,hb9⟩
      exact hK _ hb9
     rfl
     try go_frame
     refine wkV ?_
     apply ex3
     ·intro u K hK
      go_simp
      refine(iw _ _ _ _ _ _ _ (by omega) (by omega) (by omega) (by omega) (by omega) (by omega)).mono ?_
      rintro e w9 ⟨rfl,hb9⟩
      exact hK _ hb9
     rfl
     try go_frame
     refine wkU (fun u hR K hK=> ?_) (fun o5=> ?_)
     ·clear hR
      have zw:=u.size
      go_simp
      exact hK _ _ bel ⟨_,rfl,zw,ai rfl⟩
     try go_frame
     refine aI (fun u hR=> ?_)
     obtain⟨gl,rfl,hgl,Hgl⟩:yd (wq.alloc (.cells #[.int .i64 Q.1, .int .i64 Q.2.1, .int .i64 Q.2.2.1, .int .i64 Q.2.2.2] 190)).heap.size 191 #[.int .i64 0, .int .i64 0, .int .i64 0] o5 u.val:=hR 5 (by simp)
     have hbl:=u.below
     clear hR
     generalize u.val=wl at*
     clear u
     simp only[oas]
     have g0:wl.cell? ⟨gl,0,none⟩=some (.int .i64 0):=(bq Hgl 0).trans rfl
     have g1:wl.cell? ⟨gl,1,none⟩=some (.int .i64 0):=(bq Hgl 1).trans rfl
     have g2:wl.cell? ⟨gl,2,none⟩=some (.int .i64 0):=(bq Hgl 2).trans rfl
     have gf:=aC Hgl
     have Hb:=YJ Hgl
     have HL:Hid (aN (nrm P) (nrm Q)=(P.2.1*Q.2.2.1-P.2.2.1*Q.2.1,P.2.2.1*Q.1-P.1*Q.2.2.1,P.1*Q.2.1-P.2.1*Q.1)):=YJ rfl
     have bL0:=aL oP.2.1 oP.2.2.1 oQ.2.1 oQ.2.2.1
     have bL1:=aL oP.2.2.1 oP.1 oQ.2.2.1 oQ.1
     have bL2:=aL oP.1 oP.2.1 oQ.1 oQ.2.1
     clear Hgl p0 p1 p2 p3
     generalize P.2.1*Q.2.2.1-P.2.2.1*Q.2.1=l0 at*
     generalize P.2.2.1*Q.1-P.1*Q.2.2.1=l1 at*
     generalize P.1*Q.2.1-P.2.1*Q.1=l2 at*
     try go_frame
     iterate 1 (refine wpList_step (fun K hK=> ?_);go_simp;refine hK _ _ ?_;clear hK K)
     refine NoPanic.normal ?_
     have hv:=kL l0 l1 l2 0 0 0
     obtain⟨wm,Hwm⟩:∃wm,Hid (((wl.setCell ⟨gl,0,none⟩ (.int .i64 l0)).setCell ⟨gl,1,none⟩ (.int .i64 l1)).setCell ⟨gl,2,none⟩ (.int .i64 l2)=wm):=⟨_,YJ rfl⟩
     have hbm:Below (wq.alloc (.cells #[.int .i64 Q.1, .int .i64 Q.2.1, .int .i64 Q.2.2.1, .int .i64 Q.2.2.2] 190)).heap.size (wq.alloc (.cells #[.int .i64 Q.1, .int .i64 Q.2.1, .int .i64 Q.2.2.1, .int .i64 Q.2.2.2] 190)) wm:=by
      rw[←Hwm.out];exact((hbl.setCell hgl _).setCell hgl _).setCell hgl _
     have hbwm:Below w.heap.size w wm:=fB hb (fB bel hbm)
     have HP1:Hid (wm.heap[wo.heap.size]? =some (.cells #[.int .i64 P.1, .int .i64 P.2.1, .int .i64 P.2.2.1, .int .i64 P.2.2.2] 190 (0,0))):=YJ ((hbm.block _ (by simp;omega)).trans ((aB zq).trans HPb.out))
     have Hl:Hid (wm.heap[gl]? =some (.cells #[.int .i64 l0, .int .i64 l1, .int .i64 l2] 191 (0,0))):=by rw[←Hwm.out];exact YJ (Tu (Tu (Tu Hb.out 0 _) 1 _) 2 _)
     rw[Hwm.out]
     rw[HL.out]at Hline
     clear hbl hbm g0 g1 g2 gf Hb Hwm HPb hgl hb
     have e0:wm.cell? ⟨gl,0,none⟩=some (.int .i64 l0):=(bq Hl.out 0).trans rfl
     have e1:wm.cell? ⟨gl,1,none⟩=some (.int .i64 l1):=(bq Hl.out 1).trans rfl
     have e2:wm.cell? ⟨gl,2,none⟩=some (.int .i64 l2):=(bq Hl.out 2).trans rfl
     by_cases hz:l0=0∧l1=0∧l2=0
     ·have hb0:(l0==0&&l1==0&&l2==0)=true:=by simp[hz]
      have Hz:=YJ hz
      rw[hb0]at hv
      clear hz hb0
      have Hnz:Hid (nzB (dJ ps k j)=false):=YJ (by rw[Hline.out,Hz.out.1,Hz.out.2.1,Hz.out.2.2];rfl)
      go_wp2
      go_roundw
      case rel=>exact⟨j+1,by omega,by go_num,by rw[Hfi.out,Hnz.out, ←HF.out];simp,hbwm,HP1,YJ (fun i h=>by
       by_cases e:i=j
       ·subst e;unfold ij;rw[Hnz.out];rfl
       ·exact Hgj.out i (by omega))⟩
      simp[intOf];omega
     ·have hb0:(l0==0&&l1==0&&l2==0)=false:=by rw[Bool.eq_false_iff];simp;omega
      rw[hb0]at hv
      clear hb0
      have Hnz:Hid (nzB (dJ ps k j)=true):=YJ (by rw[Hline.out];unfold nzB;rw[qfV];intro e;injection e with e1 e2;injection e2 with e2 e3;exact hz ⟨e1,e2,e3⟩)
      go_wp2
      go_loopw [9,10,39] (fun s9 s10 i wr=>∃m:Nat,m≤n∧i= .int .i64 m∧s9= .bool (mR ps (l0,l1,l2) m)∧s10= .bool (mS ps (l0,l1,l2) m)∧Below w.heap.size w wr∧Hid (wr.heap[wo.heap.size]? =some (.cells #[.int .i64 P.1, .int .i64 P.2.1, .int .i64 P.2.2.1, .int .i64 P.2.2.2] 190 (0,0)))∧Hid (wr.heap[gl]? =some (.cells #[.int .i64 l0, .int .i64 l1, .int .i64 l2] 191 (0,0)))) (fun _ _ i _=>n-(intOf i).toNat)
      case atStart=>exact⟨0,by omega,rfl,rfl,rfl,hbwm,HP1,Hl⟩
      case round=>
       clear e0 e1 e2 HP1 Hl hv hz hbwm
       obtain⟨m,hm,rfl,rfl,rfl,hb,HP1,Hl⟩:=hrel
       by_cases hlt3:m<n
       ·obtain⟨c0,c1,c2,c3⟩:=(HI.out.below hb) m (by omega)
        have HokR:=YJ (eV HPS.out m (by omega))
        have Hab:=YJ (Bv ps (l0,l1,l2) m (by omega))
        have Hbl:=YJ (Bw ps (l0,l1,l2) m (by omega))
        rw[eN m (by omega)]at c0 c1 c2 c3
        obtain⟨R,HR⟩:∃R,Hid (fk ps m=R):=⟨_,YJ rfl⟩
        rw[HR.out]at c0 c1 c2 c3 HokR Hab Hbl
        obtain⟨wz,rfl⟩:∃wz:World,wz=wr:=⟨_,rfl⟩
        have zP:=ah HP1.out
        have zL:=ah Hl.out
        have e0:wz.cell? ⟨gl,0,none⟩=some (.int .i64 l0):=(bq Hl.out 0).trans rfl
        have e1:wz.cell? ⟨gl,1,none⟩=some (.int .i64 l1):=(bq Hl.out 1).trans rfl
        have e2:wz.cell? ⟨gl,2,none⟩=some (.int .i64 l2):=(bq Hl.out 2).trans rfl
        have oR:=HokR.out
        simp only[bI]at oR
        go_wp2
        clear c0 c1 c2 c3
        have zL1:gl<wz.heap.size+1:=by omega
        refine wqb ?_
        repeat(first|go_big_quiet_step ((first|(go_at_call 104;exact aE (Tx _ _ _ _ _))|(go_at_call 105;exact aE (Ud _ _ _ _ _ _ _ (by omega) (by omega) (by omega) (by omega) (by omega) (by omega)))))|quiet_step ((first|(go_at_call 104;exact aE (Tx _ _ _ _ _))|(go_at_call 105;exact aE (Ud _ _ _ _ _ _ _ (by omega) (by omega) (by omega) (by omega) (by omega) (by omega))))))
        refine wqn fun u=> ?_
        have Hden:Hid (bj (l0,l1,l2) (nrm R)=l0*R.1+l1*R.2.1+l2*R.2.2.1):=YJ rfl
        rw[Hden.out]at Hab Hbl
        have HP2:Hid (u.val.heap[wo.heap.size]? =some (.cells #[.int .i64 P.1, .int .i64 P.2.1, .int .i64 P.2.2.1, .int .i64 P.2.2.2] 190 (0,0))):=YJ ((u.below.block _ (by simp;omega)).trans ((aB zP).trans HP1.out))
        have Hl2:Hid (u.val.heap[gl]? =some (.cells #[.int .i64 l0, .int .i64 l1, .int .i64 l2] 191 (0,0))):=YJ ((u.below.block _ (by simp;omega)).trans ((aB zL).trans Hl.out))
        have hb2:Below w.heap.size w u.val:=fB hb (fB bel u.below)
        clear e0 e1 e2 HP1 Hl oR hb
        generalize l0*R.1+l1*R.2.1+l2*R.2.2.1=den at*
        generalize mR ps (l0,l1,l2) m=A at*
        generalize mS ps (l0,l1,l2) m=B at*
        have tri:0<den∨den<0∨den=0:=by omega
        rcases tri with hd|hd|hd
        ·have hd2:¬den<0:=by omega
         rw[qfX hd]at Hab
         rw[qfZ hd2]at Hbl
         cases A<;>cases B
         all_goals
          go_wp2
          go_roundw
          case rel=>exact⟨m+1,by omega,by go_num,by rw[Hab.out];rfl,by rw[Hbl.out];rfl,hb2,HP2,Hl2⟩
          simp[intOf];omega
        ·have hd2:¬0<den:=by omega
         rw[qfZ hd2]at Hab
         rw[qfX hd]at Hbl
         cases A<;>cases B
         all_goals
          go_wp2
          go_roundw
          case rel=>exact⟨m+1,by omega,by go_num,by rw[Hab.out];rfl,by rw[Hbl.out];rfl,hb2,HP2,Hl2⟩
          simp[intOf];omega
        ·subst hd
         cases A<;>cases B
         all_goals
          go_wp2
          go_roundw
          case rel=>exact⟨m+1,by omega,by go_num,by rw[Hab.out];rfl,by rw[Hbl.out];rfl,hb2,HP2,Hl2⟩
          simp[intOf];omega
       ·obtain rfl:m=n:=by omega
        have HA:Hid (ij ps k j=(mR ps (l0,l1,l2) m&&mS ps (l0,l1,l2) m)):=YJ (by unfold ij;rw[Hnz.out,Hline.out,hn];rfl)
        have Hbd:=YJ (Hbad.out k j (by omega) hlt2)
        generalize mR ps (l0,l1,l2) m=A at*
        generalize mS ps (l0,l1,l2) m=B at*
        cases A<;>cases B
        ·cases F
         all_goals
          go_wp2
          go_ret
          exact⟨ay (Hbd.out HA.out).symm,hb⟩
        ·cases F
         all_goals
          go_wp2
          go_ret
          exact⟨ay (Hbd.out HA.out).symm,hb⟩
        ·cases F
         all_goals
          go_wp2
          go_ret
          exact⟨ay (Hbd.out HA.out).symm,hb⟩
        ·cases F
         all_goals
          go_wp2
          go_roundw
          case rel=>exact⟨j+1,by omega,by go_num,by rw[Hfi.out,Hnz.out];simp,hb,HP1,YJ (fun i h=>by
           by_cases e:i=j
           ·subst e;exact HA.out
           ·exact Hgj.out i (by omega))⟩
          simp[intOf];omega
    ·obtain rfl:j=k:=by omega
     have Hsum:=YJ (qU ps j)
     go_wp2
     go_roundw
     case rel=>exact⟨j+1,by omega,by go_num,by rw[Hsum.out],hb,YJ (fun i q h1 h2=>by
      by_cases e:i=j
      ·subst e;exact Hgj.out q h2
      ·exact Hgk.out i q (by omega) h2)⟩
     simp[intOf];omega
  ·obtain rfl:k=n:=by omega
   have Hg:=YJ (Hgood.out (fun i q h1 h2=>Hgk.out i q (by omega) h2))
   clear hx
   go_wp2
   go_ret
   exact⟨ay (by rw[Hg.out,hn]),hbk⟩
def cJ:List Q4→Int
 | []=>0
 |p::ps=>if bP p=0 then cJ ps else bP p
theorem nV (ps:List Q4) (k:Nat) (hk:k<ps.length) (h:∀i (hi:i<ps.length),i<k→bP ps[i]=0) (hx:bP ps[k]≠0):cJ ps=bP ps[k]:=by
 induction ps generalizing k with
 |nil=>simp at hk
 |cons p ps ih=>
  cases k with
  |zero=>simp only[qdt]at hx;simp[cJ,hx]
  |succ k=>
   have h0:=h 0 (by simp) (by omega)
   simp only[qdt]at h0
   simp only[cJ,h0,if_true,List.getElem_cons_succ]
   exact ih k (by simpa using hk) (fun i hi hik=>by have:=h (i+1) (by simpa using hi) (by omega);simpa using this) (by simpa using hx)
theorem iQ (ps:List Q4) (h:∀i (hi:i<ps.length),bP ps[i]=0):cJ ps=0:=by
 induction ps with
 |nil=>rfl
 |cons p ps ih=>
  have h0:=h 0 (by simp)
  simp only[qdt]at h0
  simp only[cJ,h0,if_true]
  exact ih (fun i hi=>by have:=h (i+1) (by simpa using hi);simpa using this)
theorem iR (p:Q4) (h:bP p=0):cI p:=by
 unfold bP at h
 split at h
 ·cases h
 ·rename_i h1
  split at h
  ·cases h
  ·rename_i h2
   unfold cI bI
   omega
def qbM (cs:List Q4):Bool:= !(cs.any fun c=> !lw c)
def bK (ps:List Q4):Int:=
 if 16<ps.length then 8 else if cJ ps≠0 then cJ ps else if bx ps=false then 14 else
 if fh ps (aS ps)=false then 13 else if qbM (aS ps)=false then 2 else 0
theorem kU {l:List Q4} {x:Q4} (h:x∈Lib.compact l):x∈l:=by
 simp only[Lib.compact,Lib.compactUpTo,altt,alsm,ultv]at h
 obtain⟨i,⟨hi,_⟩,rfl⟩:=h
 rw[getElem!_pos l.toArray i (by simpa using hi)]
 simp
theorem pq {ps:List Q4} {c:Q4} (h:c∈aS ps):c∈raw ps ps.length:=by
 have:=kU h
 simpa [ed]using this
theorem ml (ps:List Q4) (h:∀p∈ps,bI p):∀c∈aS ps,dI c:=fun c hc=>iD ps h ps.length (qaA _) c (pq hc)
theorem WW (l:List Q4):(Lib.compact l).length≤l.length:=Df _ _
theorem kV (ps:List Q4) (h:ps.length≤64):(aS ps).length≤262144:=by
 have h1:=WW (ed (raw ps ps.length))
 rw[ni]at h1
 have h2:=jp ps ps.length h
 unfold aS
 omega
theorem nW (c:Q4) (w:World) (hc:fD c):Calls Tryz.prog 193 #[v4 c] w (Ret w (.bool (!lw c))):=by
 obtain⟨x,y,z,q⟩:=c
 simp only[fD]at hc
 have hs:=fun W=>YJ (qG x y z q W (by omega))
 generalize lw (x,y,z,q)=r at*
 go_enter Tryz.func193,Tryz.ntmps193
 go_wp2_with fail
 refine((hs _).out).mono ?_
 rintro e w1 ⟨rfl,hb1⟩
 go_wp2
 go_ret
 exact⟨rfl,fB bel hb1⟩
theorem Jm:∀args w,(callFunc 193 args).run Tryz.prog w= .ok (.enter 193 args) w:=enters_of Tryz.func193 (by kernel_rfl) rfl
theorem sY (c:Q4) (w:World) (hc:fD c):gH Tryz.prog 193 #[] w (v4 c) (!lw c):=fun _ _=>nW c _ hc
theorem AY {w:World} {base base':Nat} {e:TypeId} {size n:Nat} {v:Value} {xs:List Value} (h:w.ownsRow base e size v n xs) (hb:base'≤base):w.ownsRow base' e size v n xs:=
 ⟨h.1,h.2.imp id (fun⟨g,cap,cur,hv,hg,r⟩=>⟨g,cap,cur,hv,qaD hb hg,r⟩)⟩
def ReadPost (ps:List Q4) (pv:Value) (w:World) (e:Ending) (w':World):Prop:=
 Below w.heap.size w w'∧((bK ps=0∧∃cv,e= .returned (.tuple #[.agg #[pv,cv], .int .i64 0])∧w'.ownsRow w.heap.size 186 4 cv (aS ps).length ((aS ps).flatMap aH))∨
  (bK ps≠0∧e= .returned (.tuple #[.agg #[.slice none 0 0, .slice none 0 0], .int .i64 (bK ps)])))
theorem ReadPost.err {ps:List Q4} {pv:Value} {w w':World} {n:Int} (hb:Below w.heap.size w w') (hn:bK ps=n) (h0:n≠0):ReadPost ps pv w (.returned (.tuple #[.agg #[.slice none 0 0, .slice none 0 0], .int .i64 n])) w':=
 ⟨hb, .inr ⟨by rw[hn];exact h0,by rw[hn]⟩⟩
set_option maxRecDepth 100000 in
theorem By (ps:List Q4) (pv:Value) (w:World) (hl:ps.length≤1000000000) (hpv:Q4s w pv ps):
  Calls Tryz.prog 144 #[.agg #[pv]] w (ReadPost ps pv w):=by
 have HPV:=YJ hpv
 obtain⟨a,n,cc,rfl,hn,hnc,hx⟩:=hpv
 by_cases h16:16<n
 ·have He:Hid (bK ps=8):=YJ (by unfold bK;rw[if_pos (by omega)])
  clear hx
  go_enter Tryz.func144,Tryz.ntmps144
  go_wp2
  refine bodyPost_ret (v:= .tuple #[.agg #[.slice none 0 0, .slice none 0 0], .int .i64 8]) (by simp[results,Tryz.results144,go_sem]) rfl (ReadPost.err ?_ He.out (by decide))
  exact bel
 ·have Hc0:Hid (∀x,cJ ps=x→x≠0→bK ps=x):=YJ (fun x h h0=>by unfold bK;rw[if_neg (by omega),if_pos (by rw[h];exact h0),h])
  have Hc1:Hid (cJ ps=0→bx ps=false→bK ps=14):=YJ (fun h h1=>by unfold bK;rw[if_neg (by omega),if_neg (by simp[h]),if_pos h1])
  have Hc2:Hid (cJ ps=0→bx ps=true→fh ps (aS ps)=false→bK ps=13):=YJ (fun h h1 h2=>by unfold bK;rw[if_neg (by omega),if_neg (by simp[h]),if_neg (by simp[h1]),if_pos h2])
  have Hc3:Hid (cJ ps=0→bx ps=true→fh ps (aS ps)=true→qbM (aS ps)=false→bK ps=2):=YJ (fun h h1 h2 h3=>by unfold bK;rw[if_neg (by omega),if_neg (by simp[h]),if_neg (by simp[h1]),if_neg (by simp[h2]),if_pos h3])
  have Hc4:Hid (cJ ps=0→bx ps=true→fh ps (aS ps)=true→qbM (aS ps)=true→bK ps=0):=YJ (fun h h1 h2 h3=>by unfold bK;rw[if_neg (by omega),if_neg (by simp[h]),if_neg (by simp[h1]),if_neg (by simp[h2]),if_neg (by simp[h3])])
  have Hhit:=YJ (nV ps)
  have Hnone:=YJ (iQ ps)
  go_enter Tryz.func144,Tryz.ntmps144
  go_wp2
  go_loopw [16] (fun i wr=>∃k:Nat,k≤n∧i= .int .i64 k∧Below w.heap.size w wr∧Hid (wr.heap[w.heap.size]? =some (.cells #[.slice a n cc] 164 (0,0)))∧Hid (wr.heap[w.heap.size+1]? =some (.cells #[.slice none 0 0, .slice none 0 0] 184 (0,0)))∧Hid (∀i (h:i<ps.length),i<k→bP ps[i]=0)) (fun i _=>n-(intOf i).toNat)
  case atStart=>exact⟨0,by omega,rfl,bel,YJ ((aB (by simp)).trans (ai rfl)),YJ (ai (by simp)),YJ (fun i _ h=>by omega)⟩
  case round=>
   obtain⟨k,hk,rfl,hb,HB,HC,Hz⟩:=hrel
   have zC:=ah HC.out
   have r0:wr.cell? ⟨w.heap.size+1,0,none⟩=some (.slice none 0 0):=(bq HC.out 0).trans rfl
   have r1:wr.cell? ⟨w.heap.size+1,1,none⟩=some (.slice none 0 0):=(bq HC.out 1).trans rfl
   by_cases hlt:k<n
   ·obtain⟨b,off,rfl,hi⟩:=hx (by omega)
    obtain⟨c0,c1,c2,c3⟩:=(hi.below hb) k (by omega)
    have Hhk:=YJ (Hhit.out k (by omega) Hz.out)
    obtain⟨p,Hp⟩:∃p,Hid (ps[k]=p):=⟨_,YJ rfl⟩
    rw[Hp.out]at c0 c1 c2 c3 Hhk
    have hs:=fun W=>YJ (lO p.1 p.2.1 p.2.2.1 p.2.2.2 W)
    have Hpe:Hid (bP (p.1,p.2.1,p.2.2.1,p.2.2.2)=bP p):=YJ rfl
    rw[Hpe.out]at hs
    clear hx hi
    by_cases hpe:bP p=0
    ·rw[hpe]at hs
     have He:=YJ hpe
     clear hpe
     go_wp2_with fail
     refine((hs _).out).mono ?_
     rintro e w1 ⟨rfl,hb1⟩
     clear hs
     go_wp2
     go_roundw
     case rel=>exact⟨k+1,by omega,by go_num,fB hb (fB bel hb1),YJ ((hb1.block _ (by simp;omega)).trans ((aB (by omega)).trans HB.out)),YJ ((hb1.block _ (by simp;omega)).trans ((aB zC).trans HC.out)),YJ (fun i hi hik=>by
      by_cases e:i=k
      ·subst e;rw[Hp.out];exact He.out
      ·exact Hz.out i hi (by omega))⟩
     simp[intOf];omega
    ·have Hce:=YJ (Hc0.out _ (Hhk.out hpe) hpe)
     have hne:(bP p !=0)=true:=by simpa using hpe
     go_wp2_with fail
     refine((hs _).out).mono ?_
     rintro e w1 ⟨rfl,hb1⟩
     have HC1:w1.heap[w.heap.size+1]? =some (.cells #[.slice none 0 0, .slice none 0 0] 184 (0,0)):=(hb1.block _ (by simp;omega)).trans ((aB zC).trans HC.out)
     have q0:w1.cell? ⟨w.heap.size+1,0,none⟩=some (.slice none 0 0):=(bq HC1 0).trans rfl
     have q1:w1.cell? ⟨w.heap.size+1,1,none⟩=some (.slice none 0 0):=(bq HC1 1).trans rfl
     have f0:=aC HC1
     have hbw1:Below w.heap.size w w1:=fB hb (fB bel hb1)
     clear hs HC1
     generalize bP p=pe at*
     go_wp2
     refine bodyPost_ret (v:= .tuple #[.agg #[.slice none 0 0, .slice none 0 0], .int .i64 pe]) (by simp[results,Tryz.results144,go_sem,q0,q1]) rfl (ReadPost.err ?_ Hce.out hpe)
     exact(hbw1.setCell (by simp) _).setCell (by simp) _
   ·obtain rfl:k=n:=by omega
    have hall:∀i (h:i<ps.length),bP ps[i]=0:=fun i hi=>Hz.out i hi (by omega)
    have HF:=YJ (Hnone.out hall)
    have Hok0:Hid (∀p∈ps,cI p):=YJ (fun p hp=>by obtain⟨i,hi,rfl⟩:=qaJ hp;exact iR _ (hall i hi))
    have Hok:Hid (∀p∈ps,bI p):=YJ (fun p hp=>(Hok0.out p hp).1)
    have Hcok:=YJ (ml ps Hok.out)
    have Hclen:=YJ (kV ps (by omega))
    have b0:wr.cell? ⟨w.heap.size,0,none⟩=some (.slice a k cc):=(bq HB.out 0).trans rfl
    clear hall hx
    have hbd:=fun W hW=>YJ (YO ps (.slice a k cc) W Hok.out (by omega) hW)
    cases hbb:bx ps with
    |false=>
     rw[hbb]at hbd
     have He:=YJ (Hc1.out HF.out hbb)
     clear hbb
     go_wp2_with fail
     refine((hbd _ (HPV.out.below hb)).out).mono ?_
     rintro e w1 ⟨rfl,hb1⟩
     have HC1:w1.heap[w.heap.size+1]? =some (.cells #[.slice none 0 0, .slice none 0 0] 184 (0,0)):=(hb1.block _ zC).trans HC.out
     have q0:w1.cell? ⟨w.heap.size+1,0,none⟩=some (.slice none 0 0):=(bq HC1 0).trans rfl
     have q1:w1.cell? ⟨w.heap.size+1,1,none⟩=some (.slice none 0 0):=(bq HC1 1).trans rfl
     have f0:=aC HC1
     have hbw1:Below w.heap.size w w1:=fB hb hb1
     clear hbd HC1
     go_wp2
     refine bodyPost_ret (v:= .tuple #[.agg #[.slice none 0 0, .slice none 0 0], .int .i64 14]) (by simp[results,Tryz.results144,go_sem,q0,q1]) rfl (ReadPost.err ?_ He.out (by decide))
     exact(hbw1.setCell (by simp) _).setCell (by simp) _
    |true=>
     rw[hbb]at hbd
     have HBB:=YJ hbb
     clear hbb
     go_wp2_with fail
     refine((hbd _ (HPV.out.below hb)).out).mono ?_
     rintro e w1 ⟨rfl,hb1⟩
     have HC1:Hid (w1.heap[w.heap.size+1]? =some (.cells #[.slice none 0 0, .slice none 0 0] 184 (0,0))):=YJ ((hb1.block _ zC).trans HC.out)
     have HB1:Hid (w1.heap[w.heap.size]? =some (.cells #[.slice a k cc] 164 (0,0))):=YJ ((hb1.block _ (by omega)).trans HB.out)
     have hbw1:Below w.heap.size w w1:=fB hb hb1
     have b1:w1.cell? ⟨w.heap.size,0,none⟩=some (.slice a k cc):=(bq HB1.out 0).trans rfl
     have zC1:=ah HC1.out
     clear hbd HC HB b0 r0 r1 hb hb1 zC
     go_wp2_with fail
     refine(qQ ps (.slice a k cc) w1 Hok.out (by omega) (HPV.out.below hbw1)).mono ?_
     rintro e w2 ⟨cv,rfl,hb2,hown2⟩
     have HQ:Hid (w2.ownsRow w.heap.size 186 4 cv (aS ps).length ((aS ps).flatMap aH)):=YJ (AY hown2 (by have:=hbw1.size;omega))
     have HC2:Hid (w2.heap[w.heap.size+1]? =some (.cells #[.slice none 0 0, .slice none 0 0] 184 (0,0))):=YJ ((hb2.block _ zC1).trans HC1.out)
     have hbw2:Below w.heap.size w w2:=fB hbw1 hb2
     have zC2:=ah HC2.out
     have Hcvs:∃a m c,cv= .slice a m c:=by obtain⟨a,m,c,h,_⟩:=jz HQ.out;exact⟨a,m,c,h⟩
     obtain⟨ca,cm,cc2,rfl⟩:=Hcvs
     clear hown2 HC1 HB1 hbw1 b1 zC1 hb2
     obtain⟨W,HW⟩:∃W,Hid (w2.alloc (.cells #[.slice a k cc, .slice ca cm cc2] 184)=W):=⟨_,YJ rfl⟩
     have hbW:Below w2.heap.size w2 W:=by rw[←HW.out];exact bel
     have hs:=YJ (pk ps (aS ps) (.slice a k cc) (.slice ca cm cc2) W Hok.out (fun c hc=>(Hcok.out c hc).1) (by omega) (by have:=Hclen.out;omega) ((HPV.out.below hbw2).below hbW) (jz (au HQ.out hbW)))
     rw[←HW.out]at hs
     go_wp2_with fail
     refine(hs.out).mono ?_
     rintro e w3 ⟨rfl,hb3⟩
     have HC3:Hid (w3.heap[w.heap.size+1]? =some (.cells #[.slice none 0 0, .slice none 0 0] 184 (0,0))):=YJ ((hb3.block _ (by simp;omega)).trans ((aB zC2).trans HC2.out))
     have HD3:Hid (w3.heap[w2.heap.size]? =some (.cells #[.slice a k cc, .slice ca cm cc2] 184 (0,0))):=YJ ((hb3.block _ (by simp)).trans (ai rfl))
     have hbw3:Below w2.heap.size w2 w3:=fB bel hb3
     have hbw3':Below w.heap.size w w3:=fB hbw2 hbw3
     have HQ3:=YJ (au HQ.out hbw3)
     have q0:w3.cell? ⟨w.heap.size+1,0,none⟩=some (.slice none 0 0):=(bq HC3.out 0).trans rfl
     have q1:w3.cell? ⟨w.heap.size+1,1,none⟩=some (.slice none 0 0):=(bq HC3.out 1).trans rfl
     have f0:=aC HC3.out
     clear hs hbW HW HC2 hb3 hbw2 zC2 HQ hbw3
     cases hsb:fh ps (aS ps)with
     |false=>
      have He:=YJ (Hc2.out HF.out HBB.out hsb)
      clear hsb
      go_wp2
      refine bodyPost_ret (v:= .tuple #[.agg #[.slice none 0 0, .slice none 0 0], .int .i64 13]) (by simp[results,Tryz.results144,go_sem,q0,q1]) rfl (ReadPost.err ?_ He.out (by decide))
      exact(hbw3'.setCell (by simp) _).setCell (by simp) _
     |true=>
      have HSB:=YJ hsb
      clear hsb
      have d0:w3.cell? ⟨w2.heap.size,0,none⟩=some (.slice a k cc):=(bq HD3.out 0).trans rfl
      have d1:w3.cell? ⟨w2.heap.size,1,none⟩=some (.slice ca cm cc2):=(bq HD3.out 1).trans rfl
      have hcf:=YJ (fo (.slice ca cm cc2) (aS ps) (fun c=> !lw c) _ _ w3 (jz HQ3.out) (by have:=Hclen.out;omega) Jm (fun c hc=>sY c w3 (Hcok.out c hc).1))
      have hany:((aS ps).any fun c=> !lw c)= !qbM (aS ps):=by simp[qbM]
      rw[hany]at hcf
      clear hany
      cases hrb:qbM (aS ps)with
      |false=>
       have He:=YJ (Hc3.out HF.out HBB.out HSB.out hrb)
       rw[hrb]at hcf
       clear hrb
       go_wp2_with fail
       refine(hcf.out).mono ?_
       rintro e w4 ⟨rfl,hb4⟩
       have HC4:=(hb4.block _ (ah HC3.out)).trans HC3.out
       have s0:w4.cell? ⟨w.heap.size+1,0,none⟩=some (.slice none 0 0):=(bq HC4 0).trans rfl
       have s1:w4.cell? ⟨w.heap.size+1,1,none⟩=some (.slice none 0 0):=(bq HC4 1).trans rfl
       have f4:=aC HC4
       clear HC4 q0 q1 f0 d0 d1 hcf
       go_wp2
       refine bodyPost_ret (v:= .tuple #[.agg #[.slice none 0 0, .slice none 0 0], .int .i64 2]) (by simp[results,Tryz.results144,go_sem,s0,s1]) rfl (ReadPost.err ?_ He.out (by decide))
       exact((fB hbw3' hb4).setCell (by simp) _).setCell (by simp) _
      |true=>
       have He:=YJ (Hc4.out HF.out HBB.out HSB.out hrb)
       rw[hrb]at hcf
       clear hrb
       go_wp2_with fail
       refine(hcf.out).mono ?_
       rintro e w4 ⟨rfl,hb4⟩
       have HC4:=YJ ((hb4.block _ (ah HC3.out)).trans HC3.out)
       have HD4:=(hb4.block _ (ah HD3.out)).trans HD3.out
       have s0:w4.cell? ⟨w.heap.size+1,0,none⟩=some (.slice none 0 0):=(bq HC4.out 0).trans rfl
       have s1:w4.cell? ⟨w.heap.size+1,1,none⟩=some (.slice none 0 0):=(bq HC4.out 1).trans rfl
       have t0:w4.cell? ⟨w2.heap.size,0,none⟩=some (.slice a k cc):=(bq HD4 0).trans rfl
       have t1:w4.cell? ⟨w2.heap.size,1,none⟩=some (.slice ca cm cc2):=(bq HD4 1).trans rfl
       have f4:=aC HC4.out
       have HQ4:=YJ (au HQ3.out hb4)
       have hne:=YJ (fun e=>aG HQ4.out HC4.out (by decide) e.symm:some (w.heap.size+1)≠(Value.slice ca cm cc2).ownBlock)
       clear HD4 q0 q1 f0 d0 d1 hcf
       go_wp2
       refine bodyPost_ret (v:= .tuple #[.agg #[.slice a k cc, .slice ca cm cc2], .int .i64 0]) (by simp[results,Tryz.results144,go_sem,s0,s1]) rfl ⟨((fB hbw3' hb4).setCell (by simp) _).setCell (by simp) _, .inl ⟨He.out,_,rfl, ?_⟩⟩
       exact aF (aF HQ4.out _ _ hne.out) _ _ hne.out
theorem jx {ps:List Q4} (h:bK ps=0):ps.length≤16∧cJ ps=0:=by
 unfold bK at h
 split at h
 ·cases h
 ·rename_i h1
  split at h
  ·rename_i h2;exact absurd h h2
  ·rename_i h2;exact⟨by omega,by simpa using h2⟩
theorem nX {ps:List Q4} (h:cJ ps=0):∀p∈ps,cI p:=by
 induction ps with
 |nil=>simp
 |cons q ps ih=>
  simp only[cJ]at h
  split at h
  ·rename_i h0
   intro p hp
   rcases alsk.1 hp with rfl|hp
   ·exact iR _ h0
   ·exact ih h p hp
  ·rename_i h0;exact absurd h h0
theorem qV {ps:List Q4} (h:bK ps=0):∀p∈ps,cI p:=nX (jx h).2
def iS (ps:List Q4):List Q4:=Sp ps (aS ps)
end
end Go.Proofs.YtffbilcjhlncfaaGreatDoor
