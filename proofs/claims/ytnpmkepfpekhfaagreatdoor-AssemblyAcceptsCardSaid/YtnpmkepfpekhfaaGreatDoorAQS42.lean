/- texts: APA GI O13 FHD. -/
import Derived.Test.YtnpmkepfpekhfaaGreatDoorAQS40
import Derived.Test.YtnpmkepfpekhfaaGreatDoorAQS41
namespace Go.Proofs.YtnpmkepfpekhfaaGreatDoor
set_option maxHeartbeats 8000000
set_option linter.all false
section
open Go.RowKit Go.Shelf Go.Lib
set_option maxRecDepth 100000
theorem qeZ (v:Value) (xs:List Int) (W:World) (h:Ints W v xs) (hm:xs.length*8≤140737488355328):Calls Tryz.prog 75 #[v] W (fun e w'=>∃r,e= .returned r∧Below W.heap.size W w'∧OwnX W.heap.size w' r xs):=by
 obtain⟨a,n,c,rfl,hn,hc,hx⟩:=h
 by_cases h0:0<n
 ·obtain⟨b,off,rfl,hi⟩:=hx h0
  refine(Tryz.slices_Clone_int b off n c xs W (by omega) (by omega) (fun j hj=>by have:=hi j hj;rw[this];simp[List.getD,hj])).mono ?_
  rintro e w' ⟨r,rfl,ho,_,hb⟩
  rw[←hn,qgi]at ho
  exact⟨r,rfl,hb,ho⟩
 ·obtain rfl:n=0:=by omega
  obtain rfl:xs=[]:=alto.1 hn
  cases a with
  |none=>
   refine(Tryz.slices_Clone_int_nil 0 c W).mono ?_
   rintro e w' ⟨rfl,rfl⟩
   exact⟨_,rfl,brf,qds _ _ _ _⟩
  |some a=>
   refine(Tryz.slices_Clone_int_zero a c W).mono ?_
   rintro e w' ⟨r,rfl,ho,_,hb⟩
   exact⟨r,rfl,hb,ho⟩
def SplsN (w:World) (v:Value) (ps:List Spl):Prop:=∃a n c,v= .slice a n c∧ps.length=n∧n≤c∧
 (0<n→∃g off,a=some ⟨g,off,none⟩∧∀i (h:i<ps.length),∃p q,w.cell? ⟨g,off+i*5,none⟩=some p∧w.cell? ⟨g,off+i*5+1,none⟩=some q∧
  w.cell? ⟨g,off+i*5+2,none⟩=some (.int .i64 ps[i].2.2.1)∧w.cell? ⟨g,off+i*5+3,none⟩=some (.int .i64 ps[i].2.2.2.1)∧w.cell? ⟨g,off+i*5+4,none⟩=some (.int .i64 ps[i].2.2.2.2)∧WkV w p ps[i].1∧WkV w q ps[i].2.1)
theorem SplsN.v {w:World} {v:Value} {ps:List Spl} (h:SplsN w v ps):Kj w v ps:=by
 obtain⟨a,n,c,rfl,h1,h2,h3⟩:=h
 refine⟨a,n,c,rfl,h1,h2,fun h0=> ?_⟩
 obtain⟨g,off,rfl,hi⟩:=h3 h0
 refine⟨g,off,rfl,fun i h=> ?_⟩
 obtain⟨p,q,e0,e1,e2,e3,e4,k1,k2⟩:=hi i h
 exact⟨p,q,e0,e1,e2,e3,e4,k1.1,k2.1⟩
theorem qbN {w w':World} {v:Value} {ps:List Spl} (h:Kj w v ps) (hb:Below w.heap.size w w'):Kj w' v ps:=by
 obtain⟨a,n,c,rfl,h1,h2,h3⟩:=h
 refine⟨a,n,c,rfl,h1,h2,fun h0=> ?_⟩
 obtain⟨g,off,rfl,hi⟩:=h3 h0
 refine⟨g,off,rfl,fun i h=> ?_⟩
 obtain⟨p,q,e0,e1,e2,e3,e4,k1,k2⟩:=hi i h
 exact⟨p,q,ab hb e0,ab hb e1,ab hb e2,ab hb e3,ab hb e4,k1.below hb,k2.below hb⟩
def IsE (w:World) (a:Option Addr) (n:Nat) (x:Nat×Value×Value×Q3):Prop:=x.1<n∧∃g off,a=some ⟨g,off,none⟩∧w.cell? ⟨g,off+x.1*5,none⟩=some x.2.1∧w.cell? ⟨g,off+x.1*5+1,none⟩=some x.2.2.1∧
 w.cell? ⟨g,off+x.1*5+2,none⟩=some (.int .i64 x.2.2.2.1)∧w.cell? ⟨g,off+x.1*5+3,none⟩=some (.int .i64 x.2.2.2.2.1)∧w.cell? ⟨g,off+x.1*5+4,none⟩=some (.int .i64 x.2.2.2.2.2)
abbrev SpE (w:World) (a:Option Addr) (n:Nat):Type:={x:Nat×Value×Value×Q3 // IsE w a n x}
def qfg {w:World} {a:Option Addr} {n:Nat} (x:SpE w a n):Array Value:=#[.int .i64 x.1.1, .agg #[x.1.2.1,x.1.2.2.1, .int .i64 x.1.2.2.2.1, .int .i64 x.1.2.2.2.2.1, .int .i64 x.1.2.2.2.2.2]]
theorem IsE.real {w w0:World} {a:Option Addr} {n c:Nat} {p:List Spl} (hp:Kj w (.slice a n c) p) (hb:Below w.heap.size w w0) {x:Nat×Value×Value×Q3} (h:IsE w0 a n x):∃hj:x.1<p.length,Ints w x.2.1 p[x.1].1∧Ints w x.2.2.1 p[x.1].2.1∧x.2.2.2=p[x.1].2.2:=by
 obtain⟨a',n',c',e,hpn, -,hx⟩:=hp
 injection e with e1 e2 e3
 subst e1 e2 e3
 obtain⟨hj,g,off,rfl,e0,e1,e2,e3,e4⟩:=h
 obtain⟨g',off',e,hi⟩:=hx (by omega)
 cases e
 have hj':x.1<p.length:=by omega
 obtain⟨q,r,d0,d1,d2,d3,d4,k1,k2⟩:=hi x.1 hj'
 have d0:=ab hb d0
 have d1:=ab hb d1
 have d2:=ab hb d2
 have d3:=ab hb d3
 have d4:=ab hb d4
 rw[e0]at d0;rw[e1]at d1;rw[e2]at d2;rw[e3]at d3;rw[e4]at d4
 rw[qgb d0,qgb d1]
 injection d2 with d2;injection d2 with _ d2
 injection d3 with d3;injection d3 with _ d3
 injection d4 with d4;injection d4 with _ d4
 exact⟨hj',k1,k2,Prod.ext d2 (Prod.ext d3 d4)⟩
def KpS (b:Nat) (a:Option Addr) (n:Nat) (A B:World):Prop:=B.heap[b]? =A.heap[b]? ∧(0<n→∀g off,a=some ⟨g,off,none⟩→B.heap[g]? =A.heap[g]?)
theorem KpS.trans {b:Nat} {a:Option Addr} {n:Nat} {A B C:World} (h:KpS b a n A B) (k:KpS b a n B C):KpS b a n A C:=⟨k.1.trans h.1,fun h0 g off e=>(k.2 h0 g off e).trans (h.2 h0 g off e)⟩
theorem qdH {A B:World} {g i:Nat} {v:Value} (h:B.heap[g]? =A.heap[g]?) (k:A.cell? ⟨g,i,none⟩=some v):B.cell? ⟨g,i,none⟩=some v:=by
 rw[←k]
 simp only[World.cell?,h]
def bkw (n:Nat):List Nat:=(List.range n).map fun j=>n-1-j
section
attribute [local go_sem] Oper.semAt_some
theorem qfC (w:World) (a:Option Addr) (n c:Nat) (p:List Spl) (hp:Kj w (.slice a n c) p) (bb:Nat) (hB:w.heap[bb]? =some (.cells #[.slice a n c] 58 (0,0))) (hn:n≤1000000) (m:Nat) (hm:1≤m) (l:Nat) (J Jx:List (SpE w a n)→World→Prop) (W0:World) (hw:Below w.heap.size w W0)
  (hY:∀pre x W1,J pre W1→pre.length<n→YieldAt Fence.wide (m-1) Tryz.prog l (qfg x) W1 fun e W'=>(e= .returned (.bool true)∧J (pre++[x]) W'∧KpS bb a n W1 W')∨(e= .returned (.bool false)∧Jx (pre++[x]) W')) (h0:J [] W0):
  CallsIn Fence.wide m Tryz.prog 107 (#[.func (.yield l) #[] #[]]++#[.pointer (some ⟨bb,0,none⟩)]) W0 fun e W'=>(∃v,e= .returned v)∧((∃xs:List (SpE w a n),xs.map (fun x=>x.1.1)=bkw n∧J xs W')∨(∃pre:List (SpE w a n),True∧Jx pre W')):=by
 obtain⟨a',n',c',e,hpn, -,hx⟩:=hp
 injection e with e1 e2 e3
 subst e1 e2 e3
 have HX:=YJ hx
 have hB0:W0.heap[bb]? =some (.cells #[.slice a n c] 58 (0,0)):=(hw.block _ (ah hB)).trans hB
 have HB0:=YJ hB0
 have c0:=(ag hB0 0).trans (rfl:_=some (Value.slice a n c))
 clear hx hB0
 refine callsIn_of_wp Tryz.func107 rfl trivial ?_ rfl
 simp only[Tryz.ntmps107,List.size_toArray,qdn,List.length_nil,Nat.reduceAdd,Nat.reduceSub,Array.replicate_succ,Array.replicate_zero,List.push_toArray,List.append_toArray,List.nil_append,List.cons_append]
 gi_wp2
 gi_loopw [3] (fun q wr=>∃(k:Nat) (x:Int),k≤n∧q= .int .i64 x∧Hid (x=(n:Int)-1-k)∧∃pre:List (SpE w a n),Hid (pre.length=k)∧Hid (pre.map (fun x=>x.1.1)=(List.range k).map fun j=>n-1-j)∧J pre wr∧Hid (KpS bb a n W0 wr)) (fun q _=>(intOf q+1).toNat)
 case atStart=>exact⟨0,_,by omega,rfl,YJ (by omega),[],YJ rfl,YJ rfl,h0,YJ ⟨rfl,fun _ _ _ _=>rfl⟩⟩
 case round=>
  obtain⟨k,x,hk,rfl,Hx,pre,Hpl,Hp,hJ,HK⟩:=hrel
  have hBr:=HK.out.1.trans HB0.out
  have c1:=(ag hBr 0).trans (rfl:_=some (Value.slice a n c))
  have z1:=ah hBr
  clear hBr c0
  by_cases hkn:k<n
  ·obtain⟨j,Hj⟩:∃j:Nat,Hid (n-1-k=j):=⟨_,YJ rfl⟩
   obtain rfl:x=(j:Int):=by have:=Hx.out;have:=Hj.out;omega
   have hj:j<n:=by have:=Hj.out;omega
   have q1:(0:Int)≤(j:Int):=by omega
   have q2:(j:Int)<(n:Int):=by omega
   obtain⟨g,off,rfl,hi⟩:=HX.out (by omega)
   obtain⟨gv,ov,e0,e1,e2,e3,e4, -⟩:=hi j (by omega)
   generalize p[j].2.2.1=wx at*
   generalize p[j].2.2.2.1=wy at*
   generalize p[j].2.2.2.2=wz at*
   have hE:IsE w (some ⟨g,off,none⟩) n (j,gv,ov,wx,wy,wz):=⟨hj,g,off,rfl,e0,e1,e2,e3,e4⟩
   have hkg:=HK.out.2 (by omega) g off rfl
   have d0:=qdH hkg (ab hw e0)
   have d1:=qdH hkg (ab hw e1)
   have d2:=qdH hkg (ab hw e2)
   have d3:=qdH hkg (ab hw e3)
   have d4:=qdH hkg (ab hw e4)
   have dz:=qaC wr _ d0
   simp only at dz
   obtain⟨fn,tmps,assign,body,hy,hR⟩:=hY pre ⟨(j,gv,ov,wx,wy,wz),hE⟩ wr hJ (by have:=Hpl.out;omega)
   have Hs:Hid ((pre++[(⟨(j,gv,ov,wx,wy,wz),hE⟩:SpE w (some ⟨g,off,none⟩) n)]).map (fun x=>x.1.1)=(List.range (k+1)).map fun j=>n-1-j):=YJ (by
    rw[qgh,Hp.out,List.range_succ,qgh]
    show _++[j]=_++[n-1-k]
    rw[Hj.out])
   dsimp only[qfg]at hy
   clear e0 e1 e2 e3 e4 hi hY HX hkg
   gi_wp2
   refine hR.mono ?_
   rintro e W3 (⟨rfl,hJ3,hk3⟩|⟨rfl,hJx3⟩)
   ·gi_wp2
    go_roundw
    case rel=>exact⟨k+1,_,by omega,rfl,YJ (by have:=Hx.out;omega),_,YJ (by have:=Hpl.out;simp;omega),Hs,hJ3,YJ (HK.out.trans hk3)⟩
    simp[intOf];try omega
   ·gi_wp2
    refine bodyPost_ret (results_none rfl _ _ _) rfl ?_
    exact⟨⟨_,rfl⟩, .inr ⟨_,trivial,hJx3⟩⟩
  ·obtain rfl:k=n:=by omega
   have q1:¬(0:Int)≤x:=by have:=Hx.out;omega
   have hS:pre.map (fun x=>x.1.1)=bkw k:=Hp.out
   clear HX
   obtain rfl:x= -1:=by have:=Hx.out;omega
   gi_wp2
   go_end0
   exact⟨⟨_,rfl⟩, .inl ⟨pre,hS,hJ⟩⟩
theorem qfa (w:World) (a:Option Addr) (n c:Nat) (p:List Spl) (hp:Kj w (.slice a n c) p) (bb:Nat) (hB:w.heap[bb]? =some (.cells #[.slice a n c] 58 (0,0))) (hn:n≤1000000) (m:Nat) (hm:1≤m):
  SeqStopsK Fence.wide m Tryz.prog 107 #[.pointer (some ⟨bb,0,none⟩)] (qfg (w:=w) (a:=a) (n:=n)) (KpS bb a n) (fun xs=>xs.map (fun x=>x.1.1)=bkw n) (fun _=>True) n w:=fun l J Jx W hb _ _ hY h0=>
 qfC w a n c p hp bb hB hn m hm l J Jx W hb hY h0
end
section
attribute [local go_sem] Ext.cell Ext.frozen
theorem qfD (a:Option Addr) (n c:Nat) (W:World):Calls Tryz.prog 74 #[.slice a n c] W (fun e w'=>e= .returned (.func (.func 107) #[] #[.pointer (some ⟨W.heap.size,0,none⟩)])∧w'=W.alloc (.cells #[.slice a n c] 58)):=by
 go_enter Tryz.func74,Tryz.ntmps74
 go_wp2
 go_ret
 exact⟨rfl,rfl⟩
end
end
section
open Go.RowKit
section
variable {P:Program} {ops:Array Oper} {md:Region.Mode} {Q:Exit→Act→World→Prop}
theorem qeE {a:Act} {w:World} {l:List Oper} (wi ci:List Nat) (t0:Nat) (ms:List Nat) (f0:Nat) (fs:List Nat) (R:List SP) (S:World→Prop) (hB:il .any l.toArray wi ci t0 (ms++f0::fs)=true)
  (hB2:fQ .any l.toArray f0 (ci++t0::ms)=true)
  (hS:∀u:Ext w,S u.val) (hz:pZ P l.toArray S (xm R) wi a)
  (h:wpK P .any l.toArray (xm R) w Q [] (fun vals a'=>∀u:Ext w,(∀i∈ci,xm R i (vals i) u.val)→wpList P l.toArray (vK P l.toArray S Q (f0::fs) ms) (bu l.toArray [t0]) a' u.val) ci (fun _=>undef) a):
  wpAny P .any l.toArray (NoPanic Q) l.toArray.size (Array.replicate l.toArray.size false) a {w with drawn:=w.drawn+1}:=by
 have hst:∀i v w w',Below w.heap.size w w'→xm R i v w→xm R i v w':=fun i v w w' hb h=>(R.getD i (sv undef)).2 v w w' hb h
 have hB':=hB
 simp only[il,qaF,qfV]at hB
 obtain⟨⟨⟨⟨⟨⟨⟨⟨⟨⟨⟨⟨⟨⟨hsel,hd⟩,hnd⟩,hpw⟩,htl⟩,hsz⟩,hs⟩,hwc⟩,hwn⟩,hfr⟩,hc⟩,hdis⟩,hcov⟩,hop⟩,hfo⟩:=hB
 have hlt:∀i∈ci,i<l.toArray.size:=fun i hi=>by
  have h:=alsi.1 hop i hi
  rcases Nat.lt_or_ge i l.toArray.size with h'|h'
  ·exact h'
  ·rw[Array.getElem?_eq_none h']at h;cases h
 have hdep:∀i∈ci,∀j,Region.waitsFor .any l.toArray i j=true→j<i∧j∈ci:=fun i hi j hj=>by
  have h:=alsi.1 hop i hi
  obtain⟨o,ho,e,hem,hb,rfl⟩:=Region.waitsFor_spec hj
  rw[ho]at h
  simp only[qaF]at h
  have:=Array.all_eq_true'.1 h.1 e hem
  simpa [hb]using this
 have hlk:∀i∈ci,∀o,l.toArray[i]? =some o→∀j∈ci,Region.waitsFor .any l.toArray i j=true∨∀d,aM l.toArray j=some d→d ∉ o.looksAt l.toArray:=fun i hi o ho j hj=>by
  have h:=alsi.1 hop i hi
  rw[ho]at h
  simp only[qaF]at h
  have h2:=alsi.1 h.2 j (ultv.2 (hlt j hj))
  have hnt:j ∉ t0::(ms++f0::fs):=by have:=alsi.1 hdis j hj;simpa using this
  simp only[qgf]at h2
  rcases h2 with(h3|h3)|h3
  ·exact absurd (by simpa using h3) hnt
  ·exact .inl h3
  ·refine .inr fun d hd hm=> ?_
   rw[hd]at h3
   simp[hm]at h3
 have hnil:∀j,(bw l.toArray [] l.toArray.size).getD j false=false:=fun j=>by rw[bg];simp
 have hobs:=gK (P:=P) (md:= .any) (Q:=Q) (zi:=[]) (R:=xm R) (a0:=a) (w0:=w) hsel hd hpw hlt hdep hlk ci [] (fun _=>undef) rfl (by rw[dD hnil];exact h)
 have hrep:∀j,(Array.replicate l.toArray.size false).getD j false=false:=fun j=>getD_replicate_false _ _
 have hwc':∀i∈wi,i∈ci:=fun i hi=>by have:=alsi.1 hwc i hi;simpa using this
 have hcf:cT .any l.toArray (f0::fs)=true:=Pp (t0::ms) hc
 have hit:∀i∈wi,i ∉ t0::(ms++f0::fs):=fun i hi=>by have:=alsi.1 hdis i (hwc' i hi);simpa using this
 have hgo:=ot (P:=P) (Q:=Q) hB' (a0:=a) (w0:=w) hS hst (fun i hi vals=>by
   have h1:=hobs.1 i hi vals (by simp)
   intro w' hb hR
   have h2:=h1 w' hb hR
   simpa using h2) (fun vals w' hb hR=>by
   obtain⟨vals1,h1,h2⟩:=hobs.2 vals (by simp) (fun j hj=>⟨w',hR j hj⟩)
   rw[dO (vals:=vals) (vals':=vals1) (fun j hj=>h1 j (by rw[bg]at hj;simp at hj;exact hj.2))]
   exact h2 ⟨w',hb⟩ (fun i hi=>by rw[←h1 i hi];exact hR i hi))
 have hb0:Below w.heap.size w {w with drawn:=w.drawn+1}:=⟨rfl,rfl,rfl,qaA _,fun _ _=>rfl⟩
 have htl':∀t∈t0::(ms++f0::fs),t<l.toArray.size:=fun t ht=>by have:=alsi.1 htl t ht;simpa using this
 have:=nA (P:=P) (md:= .any) (Q:=Q) (wi:=wi) (cs:=ci++t0::ms) (f0:=f0) (fs:=fs) (S:=S) (R:=xm R) (a0:=a) (w:={w with drawn:=w.drawn+1}) (g:=(ci.length-wi.length)+(1+(ms.length+(fs.length+1)))) hsel hd hB2 hcf (fun i hi=>List.mem_append_left _ (hwc' i hi)) (fun i hi h=>hit i hi (List.mem_cons_of_mem _ (List.mem_append_right _ h))) (hS ⟨_,hb0⟩)
  (fun listed vals inv hl hR=>hgo (ci.length-wi.length) listed vals _ ⟨inv.closed,fun t ht hts=>by
    refine getD_in (by rw[inv.size];exact hts) ?_
    cases hx:listed.getD t false with
    |false=>rfl
    |true=>exact absurd ht (hit t ((hl t).1 hx)),inv.size⟩ (fun i hi=>(hl i).2 hi) (by have:=pT hnd hwn hwc' hl;omega) hb0 hR)
  wi [] (Array.replicate l.toArray.size false) (fun _=>undef) rfl (fun i=>by rw[hrep];simp) ⟨fun j oj _ hl=>(by rw[hrep]at hl;cases hl),fun t _ ht=>getD_in (by simpa using ht) (getD_replicate_false _ _),by simp⟩
  (fun j hj=>by rw[hrep]at hj;cases hj) hfr (by rw[dD hrep];exact hz)
 rw[dD hrep]at this
 have hle:wi.length≤ci.length:=by
  have h2:(ci.filter fun i=>wi.contains i).length=wi.length:=by
   refine List.Perm.length_eq ((List.perm_ext_iff_of_nodup (hnd.filter _) hwn).2 fun x=> ?_)
   rw[alsm]
   exact⟨fun h=>by simpa using h.2,fun h=>⟨hwc' x h,by simpa using h⟩⟩
  have:=qdz (fun i=>wi.contains i) ci
  omega
 have h9:=zj _ _ _ _ this
 simp only[qaE,qdn]at hsz
 rw[show wi.length+(ci.length-wi.length+(1+(ms.length+(fs.length+1))))=l.toArray.size by omega]at h9
 exact h9
def OnlyN (K:Act→World→Prop):Exit→Act→World→Prop
 | .normal,a,w=>K a w
 |_,_,_=>False
theorem OnlyN.normal {Q':Exit→Act→World→Prop} {a:Act} {w:World} (h:Q' .normal a w):OnlyN (fun a w=>Q' .normal a w) .normal a w:=h
end
structure ClI (G:List Nat) (all rest:Nat):Prop where
 lt:rest<4096
 sub:∀x,rest.testBit x=true→all.testBit x=true
 shut:WY (Vf G) (fun k=>all.testBit k=true) (fun k=>rest.testBit k=true)
theorem ClI.start {G:List Nat} {all:Nat} (h:all<4096):ClI G all all:=⟨h,fun _ h=>h,fun _ _ h1 h2=>absurd h1 h2⟩
def XU (E:Nat→Nat→Bool) (A left:List Nat) (n:Nat):Bool:=WP E left (WJ E A left n)
theorem Ye {p:Nat→Bool}:∀(l:List Nat) (i:Nat) (hi:i<l.length),(∀j (hj:j<l.length),j<i→p l[j]=false)→p l[i]=true→l.find? p=some l[i]
 |a::l,0,_,_,h=>by rw[List.find?_cons];simp only[qdt]at h ⊢;rw[h]
 |a::l,i+1,hi,h0,h=>by
  have ha:=h0 0 (by simp) (by omega)
  simp only[qdt]at ha
  rw[List.find?_cons,ha]
  simp only[List.getElem_cons_succ]at h ⊢
  exact Ye l i (by simpa using hi) (fun j hj hji=>by have:=h0 (j+1) (by simpa using hj) (by omega);simpa using this) h
def nxt (G:List Nat) (rest n:Nat):Nat:=dN rest (car G rest n)
theorem ClI.next {G:List Nat} {E:Nat→Nat→Bool} (hE:∀j k,E j k=true↔Vf G j k) {all rest f:Nat} (ha:all<4096) (h:ClI G all rest) (i:Nat) (hi:i<(lf rest).length)
  (h0:∀j (hj:j<(lf rest).length),j<i→XU E (lf all) (lf rest) (lf rest)[j]=false) (h1:XU E (lf all) (lf rest) (lf rest)[i]=true) (hf:rest≤f):
  ∃r f',ClI G all r∧r<4096∧r≤f'∧lf r=(lf rest).filter (fun y=> !(WJ E (lf all) (lf rest) (lf rest)[i]).contains y)∧(lf r).length<(lf rest).length∧Yw E (lf all) f (lf rest)=WJ E (lf all) (lf rest) (lf rest)[i]::Yw E (lf all) f' (lf r):=by
 have hn:=(Tz h.lt).1 (qaB hi)
 have hd:=Ye (p:=XU E (lf all) (lf rest)) _ i hi h0 h1
 obtain⟨e0,hok⟩:=Yd hE ha h.lt h.sub h.shut hn
 have hok1:okC G rest (lf rest)[i]=true:=by rw[e0];exact h1
 obtain⟨e1,e2,h3⟩:=hok hok1
 have hc:=VK G rest (lf rest)[i] h.lt (rr h.lt hn) (lf rest)[i]
 have hdec:nxt G rest (lf rest)[i]<rest:=YC hn (hc.2 .base)
 obtain⟨f',rfl⟩:∃f',f=f'+1:=⟨f-1,by omega⟩
 refine⟨nxt G rest (lf rest)[i],f',⟨Yc h.lt,fun x hx=>h.sub x (by unfold nxt at hx;rw[Gh]at hx;simp at hx;exact hx.1),h3⟩,Yc h.lt,by omega,e2, ?_, ?_⟩
 ·unfold nxt
  rw[e2,VN]
  intro e
  have hm:(lf rest)[i]∈(lf rest).filter (fun y=> !(WJ E (lf all) (lf rest) (lf rest)[i]).contains y):=by rw[e];exact qaB hi
  have hm2:=(alsm.1 hm).2
  rw[←e1]at hm2
  have:(lf (car G rest (lf rest)[i])).contains (lf rest)[i]=true:=List.contains_iff_mem.2 ((Tz (Me G rest _ h.lt (rr h.lt hn))).2 (hc.2 .base))
  rw[this]at hm2
  cases hm2
 ·conv=>lhs;unfold Yw
  have hd':(lf rest).find? (fun n=>WP E (lf rest) (WJ E (lf all) (lf rest) n))=some (lf rest)[i]:=hd
  rw[hd']
  simp only
  unfold nxt
  rw[e2]
theorem ClI.some {G:List Nat} {E:Nat→Nat→Bool} (hE:∀j k,E j k=true↔Vf G j k) {all rest:Nat} (ha:all<4096) (h:ClI G all rest) (hl:0<(lf rest).length)
  (h0:∀j (hj:j<(lf rest).length),XU E (lf all) (lf rest) (lf rest)[j]=false):False:=by
 obtain⟨n,hn⟩:=Yr (G:=G) h.lt (fun e=>by rw[e,elems_zero]at hl;simp at hl)
 have hm:=List.mem_of_find?_eq_some hn
 have hp:=List.find?_some hn
 rw[(Yd hE ha h.lt h.sub h.shut ((Tz h.lt).1 hm)).1]at hp
 obtain⟨j,hj,rfl⟩:=qaJ hm
 have:=h0 j hj
 unfold XU at this
 rw[this]at hp
 cases hp
end
section
open Go.RowKit Go.Shelf Go.Lib
attribute [local go_sem] Ext.cell Ext.frozen
theorem qcn:(Tryz.prog.info? 60).map (fun i=>(i.zero,i.size,i.bytes))=some (some (.agg #[.slice none 0 0, .slice none 0 0, .int .i64 0, .int .i64 0, .int .i64 0]),5,72):=by kernel_rfl
theorem qco:Tryz.prog.underlying 58=some (.slice 60):=by kernel_rfl
abbrev RSp:=Value×Value×Spl
def qcc (r:RSp):List Value:=[r.1,r.2.1, .int .i64 r.2.2.2.2.1, .int .i64 r.2.2.2.2.2.1, .int .i64 r.2.2.2.2.2.2]
def OwnR (w:World) (r:RSp):Prop:=w.ownsRow 0 3 1 r.1 r.2.2.1.length (r.2.2.1.map (Value.int .i64))∧w.ownsRow 0 3 1 r.2.1 r.2.2.2.1.length (r.2.2.2.1.map (Value.int .i64))
theorem OwnR.below {w w':World} {r:RSp} (h:OwnR w r) (hb:Below w.heap.size w w'):OwnR w' r:=⟨au h.1 hb,au h.2 hb⟩
theorem OwnR.kept {w w':World} {r:RSp} {row:Option Nat} (h:OwnR w r) (hg:w.grownBy w' row) (hr:∀g,row=some g→∃cs,w.heap[g]? =some (.cells cs 60 (0,0))):OwnR w' r:=by
 have key:∀g cs,row=some g→w.heap[g]? =some cs→∃c t,cs= .cells c t (0,0)∧t≠3:=fun g cs e k=>by
  obtain⟨c,hc⟩:=hr g e
  rw[hc]at k
  exact⟨c,_,(qgb k).symm,by decide⟩
 exact⟨Qu h.1 hg key,Qu h.2 hg key⟩
theorem qbS {mb m:Nat} {D:DataW Value} {w w':World} {B:Nat} {e:TypeId} {size n:Nat} {v:Value} {xs:List Value} (h:w.ownsRow B e size v n xs) (hb:ButM mb w w') (hm:OwM w mb m D):w'.ownsRow B e size v n xs:=
 h.kept (row:=some mb) ⟨hb.1.os,hb.1.tape,hb.1.output,hb.2.1,fun k hk hn=>hb.2.2 k hk (fun e=>hn (by rw[e]))⟩ (.inr (fun e=>by
  rcases h.2 with⟨h0,_⟩|⟨g,cap,cur,h0,_,hgb,_⟩
  ·rw[h0]at e;simp[Value.ownBlock]at e
  ·rw[h0]at e
   have:g=mb:=by simpa [Value.ownBlock]using e
   exact rt hm hgb this))
theorem OwnR.butm {mb m:Nat} {D:DataW Value} {w w':World} {r:RSp} (h:OwnR w r) (hb:ButM mb w w') (hm:OwM w mb m D):OwnR w' r:=⟨qbS h.1 hb hm,qbS h.2 hb hm⟩
theorem qcp {w:World} {B n:Nat} {T:TypeId} {size:Nat} {v:Value} {xs:List Value} (h:w.ownsRow B T size v n xs):∀r,v.ownBlock=some r→∃cs,w.heap[r]? =some (.cells cs T (0,0)):=fun r hr=>by
 rcases h.2 with⟨h0,_⟩|⟨g,cap,cur,h0,hb,hgb,_⟩
 ·rw[h0]at hr;simp[Value.ownBlock]at hr
 ·rw[h0]at hr
  obtain rfl:g=r:=by simpa [Value.ownBlock]using hr
  exact⟨_,hgb⟩
theorem qcV (r:RSp):(qcc r).length=5:=rfl
theorem qcH {w:World} {B:Nat} {v:Value} {rs:List RSp} (h:w.ownsRow B 60 5 v rs.length (rs.flatMap qcc)) (hr:∀r∈rs,OwnR w r):Kj w v (rs.map (·.2.2)):=by
 rcases h.2 with⟨rfl,h0⟩|⟨g,cap,cur,rfl,hb,hh,hc,hm,hcs,ht⟩
 ·exact⟨none,0,0,rfl,by simpa using h0,qaA _,fun h=>absurd h (by omega)⟩
 ·refine⟨some ⟨g,0,none⟩,rs.length,cap,rfl,by simp,hc,fun _=>⟨g,0,rfl,fun i hi=> ?_⟩⟩
  have hi':i<rs.length:=by simpa using hi
  have key:∀j,j<5→w.cell? ⟨g,i*5+j,none⟩=(qcc rs[i])[j]? :=fun j hj=>by
   rw[ag hh, ←eQ qcc 5 qcV rs i hi' j hj, ←ht,qdx (by omega),Array.getElem?_toList]
  have ho:=hr _ (qaB hi')
  rw[qdB]
  simp only[qfW]
  exact⟨rs[i].1,rs[i].2.1,key 0 (by omega),key 1 (by omega),key 2 (by omega),key 3 (by omega),key 4 (by omega),jy ho.1,jy ho.2⟩
end
end Go.Proofs.YtnpmkepfpekhfaaGreatDoor
