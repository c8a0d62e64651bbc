/- texts: I1 G4 Pt I5. -/
import Derived.Test.YtffbilcjhlncfaaGreatDoorDQS9
namespace Go.Proofs.YtffbilcjhlncfaaGreatDoor
set_option maxHeartbeats 8000000
set_option linter.all false
section
open Go.RowKit Go.Shelf
attribute [local go_sem] Ext.cell Ext.frozen
theorem Jg (b off n c:Nat) (xs:List Int) (w:World) (hn:xs.length=n) (hm:n≤1000) (hx:IntsAt w b off xs) (hB:∀x∈xs, -1000000000000000≤x∧x≤1000000000000000):
  Calls Tryz.prog 220 #[.slice (some ⟨b,off,none⟩) n c] w (Ret w (.int .i64 (aU xs))):=by
 go_enter Tryz.func220,Tryz.ntmps220
 go_wp2
 go_loopw [3,8] (fun g i wr=>∃k:Nat,k≤n∧i= .int .i64 k∧g= .int .i64 (aU (xs.take k))∧Below w.heap.size w wr) (fun _ i _=>n-(intOf i).toNat)
 case atStart=>exact⟨0,by omega,rfl,rfl,brf⟩
 case round=>
  obtain⟨k,hk,rfl,rfl,hb⟩:=hrel
  by_cases hlt:k<n
  ·have hcell:=ab hb (hx k (by omega))
   have hbx:=hB (xs[k]) (by simp)
   have Hs:aU (xs.take (k+1))=Nat.gcd (aU (xs.take k)) (xs[k]).natAbs:=by rw[qB xs k (by omega),sK]
   have hg:aU (xs.take k)≤1000000000000000:=Bo _ _ (fun x hx=>hB x (List.mem_of_mem_take hx))
   generalize aU (xs.take k)=g0 at*
   obtain⟨g1,Hg1⟩:∃g1,Hid (aU (xs.take (k+1))=g1):=⟨_,rfl⟩
   rw[Hg1.out]at Hs
   generalize xs[k]=x at*
   clear hx hB
   obtain⟨m,hm',hxm⟩:∃m:Nat,m≤1000000000000000∧(x=(m:Int)∨(x= -(m:Int)∧0<m)):=⟨x.natAbs,by omega,by omega⟩
   have Hm:Hid (g1=g0.gcd m):=by show g1=g0.gcd m;rcases hxm with rfl|⟨rfl,_⟩<;>simpa using Hs
   clear Hs hbx
   rcases hxm with rfl|⟨rfl,hm0⟩
   all_goals
    go_wp2
    try rw[Int.neg_neg]
    go_loopw [3,5] (fun g i wr=>∃g' n':Nat,g'≤1000000000000000∧n'≤1000000000000000∧i= .int .i64 n'∧g= .int .i64 g'∧Hid (g1=g'.gcd n')∧Below w.heap.size w wr) (fun _ i _=>(intOf i).toNat)
    case atStart=>exact⟨g0,m,hg,hm',by first|rfl|simp,rfl,Hm,hb⟩
    case round=>
     clear hb
     obtain⟨g',n',hg',hn',rfl,rfl,Hr,hb⟩:=hrel
     by_cases hz:0<n'
     ·go_wp2
      go_quiet (fail)
      go_wp2
      go_roundw
      case rel=>exact⟨n',g' % n',hn',by have:=Nat.mod_lt g' hz;omega,by go_num,by go_num,by unfold Hid;rw[oK];exact Hr.out,hb.drewN' _⟩
      simp[intOf];have:=Nat.mod_lt g' hz;omega
     ·obtain rfl:n'=0:=by omega
      go_wp2
      go_roundw
      case rel=>exact⟨k+1,by omega,by go_num,by rw[Hg1.out,Hr.out];simp,hb⟩
      simp[intOf];omega
  ·go_wp2
   go_ret
   exact⟨aK (by rw[qaK (by omega)]),hb⟩
theorem DH (W:World) (T:TypeId) (x0 x1 x2 x3:Int) (g:Nat) (hg:g=W.heap.size) (h0: -1000000000000000≤x0∧x0≤1000000000000000) (h1: -1000000000000000≤x1∧x1≤1000000000000000) (h2: -1000000000000000≤x2∧x2≤1000000000000000) (h3: -1000000000000000≤x3∧x3≤1000000000000000):
  Calls Tryz.prog 220 #[.slice (some ⟨g,0,none⟩) 4 4] (W.alloc (.cells #[.int .i64 x0, .int .i64 x1, .int .i64 x2, .int .i64 x3] T)) (Ret (W.alloc (.cells #[.int .i64 x0, .int .i64 x1, .int .i64 x2, .int .i64 x3] T)) (.int .i64 (aU [x0,x1,x2,x3]))):=
 Jg g 0 4 4 _ _ rfl (by omega) (kK hg) (fun x hx=>by simp at hx;rcases hx with rfl|rfl|rfl|rfl<;>assumption)
theorem lk (a b c x y z:Int) (w:World) (ha: -384≤a∧a≤384) (hb: -384≤b∧b≤384) (hc: -384≤c∧c≤384)
  (hx: -384≤x∧x≤384) (hy: -384≤y∧y≤384) (hz: -384≤z∧z≤384):
  Calls Tryz.prog 219 #[V3 a b c,V3 x y z] w (Ret w (V3 (b*z-c*y) (c*x-a*z) (a*y-b*x))):=by
 have h1:=aJ hb.1 hb.2 hz.1 hz.2
 have h2:=aJ hc.1 hc.2 hy.1 hy.2
 have h3:=aJ hc.1 hc.2 hx.1 hx.2
 have h4:=aJ ha.1 ha.2 hz.1 hz.2
 have h5:=aJ ha.1 ha.2 hy.1 hy.2
 have h6:=aJ hb.1 hb.2 hx.1 hx.2
 clear ha hb hc hx hy hz
 go_enter Tryz.func219,Tryz.ntmps219
 go_wp2
 refine bodyPost_ret (v:=V3 (b*z-c*y) (c*x-a*z) (a*y-b*x)) (by simp[results,Tryz.results219,go_sem]) rfl ⟨rfl, ?_⟩
 exact bel
theorem Cf (a b c x y z:Int) (w:World) (ha: -384≤a∧a≤384) (hb: -384≤b∧b≤384) (hc: -384≤c∧c≤384)
  (hx: -300000≤x∧x≤300000) (hy: -300000≤y∧y≤300000) (hz: -300000≤z∧z≤300000):
  Calls Tryz.prog 180 #[V3 a b c,V3 x y z] w (Ret w (.int .i64 (a*x+b*y+c*z))):=by
 have h1:=aJ ha.1 ha.2 hx.1 hx.2
 have h2:=aJ hb.1 hb.2 hy.1 hy.2
 have h3:=aJ hc.1 hc.2 hz.1 hz.2
 clear ha hb hc hx hy hz
 go_enter Tryz.func180,Tryz.ntmps180
 go_wp2
 go_ret
 refine⟨rfl, ?_⟩
 exact bel
theorem BK (p x:Q4) (w:World) (hp:okW p) (hx:okX x):
  Calls Tryz.prog 223 #[v4 p,v4 x] w (Ret w (.int .i64 (cw p x))):=by
 have HE:Hid (cw p x=p.1*x.1+p.2.1*x.2.1+p.2.2.1*x.2.2.1-p.2.2.2*x.2.2.2):=YJ rfl
 unfold okW at hp
 unfold okX at hx
 have h0:=aJ hp.1.1 hp.1.2 hx.1.1 hx.1.2
 have h1:=aJ hp.2.1.1 hp.2.1.2 hx.2.1.1 hx.2.1.2
 have h2:=aJ hp.2.2.1.1 hp.2.2.1.2 hx.2.2.1.1 hx.2.2.1.2
 have h3:=aJ (X:=400000000) hp.2.2.2.1 hp.2.2.2.2 (by omega) hx.2.2.2.2
 obtain⟨p0,p1,p2,p3⟩:=p
 obtain⟨x0,x1,x2,x3⟩:=x
 simp only at*
 generalize cw (p0,p1,p2,p3) (x0,x1,x2,x3)=s at*
 clear hp hx
 go_enter Tryz.func223,Tryz.ntmps223
 go_wp2
 go_ret
 exact⟨aK HE.out.symm,bel⟩
theorem DX (p:Q4) (w:World) (hp:okW p):
  Calls Tryz.prog 229 #[v4 p] w (Ret w (v4 (eL p))):=by
 unfold okW at hp
 have HE:Hid (eL p=if 1<IV p then dG p else p):=YJ rfl
 obtain⟨a,b,c,d⟩:=p
 simp only at hp
 have e1:=YJ (bH (aY [a,b,c,d] a (by simp)))
 have e2:=YJ (bH (aY [a,b,c,d] b (by simp)))
 have e3:=YJ (bH (aY [a,b,c,d] c (by simp)))
 have e4:=YJ (bH (aY [a,b,c,d] d (by simp)))
 have HL:Hid (dG (a,b,c,d)=(a / aU [a,b,c,d],b / aU [a,b,c,d],c / aU [a,b,c,d],d / aU [a,b,c,d])):=YJ rfl
 have HG:Hid (IV (a,b,c,d)=aU [a,b,c,d]):=YJ rfl
 have t1:=bZ (g:=aU [a,b,c,d]) hp.1
 have t2:=bZ (g:=aU [a,b,c,d]) hp.2.1
 have t3:=bZ (g:=aU [a,b,c,d]) hp.2.2.1
 have t4:=bZ (g:=aU [a,b,c,d]) hp.2.2.2
 have hle:=jl 10000000000 a b c d (by omega) (by omega) (by omega) (by omega)
 generalize eL (a,b,c,d)=r at*
 generalize dG (a,b,c,d)=lo at*
 generalize IV (a,b,c,d)=g4 at*
 go_enter Tryz.func229,Tryz.ntmps229
 go_wp2_with fail
 refine(DH _ _ _ _ _ _ _ (by simp) (by omega) (by omega) (by omega) (by omega)).mono ?_
 rintro e w1 ⟨rfl,hb1⟩
 have hw1:Below w.heap.size w w1:=by
  refine Below.trans ?_ (hb1.mono (by simp;omega))
  exact bel
 have HP:=YJ ((hb1.block w.heap.size (by simp;omega)).trans ((aB (by simp;omega)).trans ((aB (by simp)).trans (ai rfl))))
 have HO:=YJ ((hb1.block (w.heap.size+1) (by simp)).trans ((aB (by simp)).trans (ai (by simp))))
 obtain⟨c0,c1,c2,c3,cf,cz⟩:=am HP.out
 obtain⟨d0,d1,d2,d3,df,dz⟩:=am HO.out
 clear hb1
 generalize aU [a,b,c,d]=g at*
 by_cases hg:1<g
 ·have hgi:(1:Int)<(g:Int):=by omega
  have hg0:¬(g:Int)=0:=by omega
  have hg1:¬g=0:=by omega
  have Hr:Hid (r=(a.tdiv g,b.tdiv g,c.tdiv g,d.tdiv g)):=YJ (by rw[HE.out,HG.out,if_pos hg,HL.out,e1.out,e2.out,e3.out,e4.out])
  clear e1 e2 e3 e4 HL HE hg
  go_wp2
  apply aj [18,19] [0,1,2,3,4,5,6,7,8,9,10,11,12,13,14,15,16,17,18,19,20] 21 [22,23] [sv _,sv _,sv _,sv _,sv _,sv _,sv _,sv _,sv _,sv _,sv _,sv _,sv _,sv _,sv _,sv _,sv _,sv _,sv _,sv _,sv _] (by kernel_rfl) (by kernel_rfl)
  iterate 18 ((try go_frame);refine wkQ ?_)
  try go_frame
  refine wkz rfl rfl rfl rfl ?_
  apply Exists.intro
  apply And.intro
  ·intro w9
   go_simp
   try rfl
  refine⟨rfl, ?_⟩
  try go_frame
  refine wkz rfl rfl rfl rfl ?_
  apply Exists.intro
  apply And.intro
  ·intro w9
   go_simp
   try rfl
  refine⟨rfl, ?_⟩
  ((try go_frame);refine wkQ ?_)
  try go_frame
  refine aI (fun u hR=> ?_)
  have HPu:=YJ ((u.below.block _ cz).trans HP.out)
  have HOu:=YJ ((u.below.block _ dz).trans HO.out)
  have hwu:=fB hw1 u.below
  clear hR HP HO c0 c1 c2 c3 cf cz d0 d1 d2 d3 df dz hw1
  generalize u.val=w2 at*
  clear u
  obtain⟨c0,c1,c2,c3,cf,cz⟩:=am HPu.out
  obtain⟨d0,d1,d2,d3,df,dz⟩:=am HOu.out
  simp only[oas]
  go_wp2
  refine NoPanic.normal ?_
  go_wp2
  refine bodyPost_ret (v:=v4 (a.tdiv g,b.tdiv g,c.tdiv g,d.tdiv g)) (by simp[results,Tryz.results229,go_sem,c0,c1,c2,c3,cz,d0,d1,d2,d3,dz]) rfl ⟨?_, ?_⟩
  ·rw[Hr.out]
  ·iterate 8 (refine qga ?_ (by first|exact qaA _|exact Nat.le_succ _|(simp;done)|(simp;omega)) _)
   exact hwu
 ·have hgi:¬(1:Int)<(g:Int):=by omega
  have Hr:Hid (r=(a,b,c,d)):=YJ (by rw[HE.out,HG.out,if_neg hg])
  clear e1 e2 e3 e4 HL HE hg
  go_wp2
  refine bodyPost_ret (v:=v4 (a,b,c,d)) (by simp[results,Tryz.results229,go_sem,c0,c1,c2,c3,cz,d0,d1,d2,d3,dz]) rfl ⟨?_, ?_⟩
  ·rw[Hr.out]
  ·iterate 4 (refine qga ?_ (by first|exact qaA _|exact Nat.le_succ _|(simp;done)|(simp;omega)) _)
   exact hw1
end
section
open Go.RowKit
section
variable {P:Program} {ops:Array Oper} {md:Region.Mode} {Q:Exit→Act→World→Prop}
structure Apart (R:Nat→Value→World→Prop) (Fr:Nat→Value→World→Prop) (S:Nat→Nat→Value→Value→Prop):Prop where
 sym:∀i j v u,S i j v u→S j i u v
 new:∀i j v u w,Fr i v w→R j u w→S i j v u
def yZ (P:Program) (md:Region.Mode) (ops:Array Oper) (R Fr:Nat→Value→World→Prop) (w0:World) (Q:Exit→Act→World→Prop) (i:Nat) (vals:Nat→Value) (a:Act):Prop:=
 ∀w',Below w0.heap.size w0 w'→(∀j,Region.waitsFor md ops i j=true→R j (vals j) w')→
  ∃o d,ops[i]? =some o∧o.dst=some d∧d<a.tmps.size∧if Region.wanted o (yielded ops a.tmps)=true then o.wp P a w' (fun x w''=>∃v,x=a.put o.dst v∧Below w'.heap.size w' w''∧R i v w''∧Fr i v w') (NoPanic Q)else R i undef w'∧Fr i undef w'
theorem og {ci:List Nat} {t0:Nat} {ts:List Nat} (hB:kP md ops ci t0 ts=true) {R Fr:Nat→Value→World→Prop} {S:Nat→Nat→Value→Value→Prop} (hap:Apart R Fr S) {a0:Act} {w0:World}
  (hst:∀i v w w',Below w.heap.size w w'→R i v w→R i v w')
  (hob:∀i∈ci,∀vals,yZ P md ops R Fr w0 Q i vals (frm ops a0 vals (bw ops ci i)))
  (hfin:∀vals w',Below w0.heap.size w0 w'→(∀i∈ci,R i (vals i) w')→(∀i∈ci,∀j∈ci,i≠j→S i j (vals i) (vals j))→wpList P ops (NoPanic Q) (bu ops (t0::ts)) (frm ops a0 vals (bw ops ci ops.size)) w'):
  ∀(f:Nat) (listed:Array Bool) (vals:Nat→Value) (w:World),Inv md ops (t0::ts) listed→(ci.filter fun i=> !listed.getD i false).length=f→Below w0.heap.size w0 w→
   (∀j,listed.getD j false=true→R j (vals j) w)→(∀i j,listed.getD i false=true→listed.getD j false=true→i≠j→S i j (vals i) (vals j))→wpAny P md ops (NoPanic Q) (f+(ts.length+1)) listed (frm ops a0 vals listed) w:=by
 simp only[kP,qaF,qfV]at hB
 obtain⟨⟨⟨⟨⟨⟨⟨⟨⟨⟨⟨hsel,hd⟩,hnd⟩,_⟩,htl⟩,hsz⟩,hs⟩,hc⟩,hdis⟩,hcov⟩,hop⟩,hfo⟩:=hB
 have hit:∀i∈ci,i ∉ t0::ts:=fun i hi=>by have:=alsi.1 hdis i hi;simpa using this
 have hcv:∀j,j<ops.size→j∈ci∨j∈t0::ts:=fun j hj=>by have:=alsi.1 hcov j (ultv.2 hj);simpa using this
 have hops:∀i∈ci,∃o,ops[i]? =some o∧(∀e∈o.after,Region.binds md e=true→e.on<i∧e.on∈ci)∧(∀j,j<ops.size→j∈t0::ts∨Region.waitsFor md ops i j=true∨∀d,aM ops j=some d→d ∉ o.looksAt ops):=fun i hi=>by
  have h:=alsi.1 hop i hi
  cases ho:ops[i]? with
  |none=>rw[ho]at h;cases h
  |some o=>
   rw[ho]at h
   simp only[qaF]at h
   obtain⟨he,hl⟩:=h
   refine⟨o,rfl,fun e hem hb=> ?_,fun j hj=> ?_⟩
   ·have:=Array.all_eq_true'.1 he e hem
    simpa [hb]using this
   ·have:=alsi.1 hl j (ultv.2 hj)
    simp only[qgf]at this
    rcases this with(h|h)|h
    ·exact .inl (by simpa using h)
    ·exact .inr (.inl h)
    ·refine .inr (.inr fun d hd hm=> ?_)
     rw[hd]at h
     simp[hm]at h
 intro f
 induction f with
 |zero=>
  intro listed vals w inv hcnt hb hR hS
  have hall:∀i∈ci,listed.getD i false=true:=fun i hi=>by
   have:=List.filter_eq_nil_iff.1 (alto.1 hcnt) i hi
   simpa using this
  have hL:listed=bw ops ci ops.size:=by
   have hsz2:(bw ops ci ops.size).size=ops.size:=by simp[bw]
   apply Array.ext (by rw[inv.size,hsz2])
   intro j h1 h2
   have e1:listed[j]=listed.getD j false:=by simp[Array.getD,h1]
   have e2:(bw ops ci ops.size)[j]=(bw ops ci ops.size).getD j false:=by simp[Array.getD,h2]
   have hj:j<ops.size:=by rw[←inv.size];exact h1
   rw[e1,e2,bg]
   rcases hcv j hj with h|h
   ·rw[hall j h];simp[hj,h]
   ·rw[getD_both (inv.tail j h hj)]
    have:j ∉ ci:=fun hh=>hit j hh h
    simp[this]
  rw[qfW]
  subst hL
  exact dg (t0::ts) _ _ w hfo (hfin vals w hb (fun i hi=>hR i (hall i hi)) (fun i hi j hj hij=>hS i j (hall i hi) (hall j hj) hij))
 |succ f ih=>
  intro listed vals w inv hcnt hb hR hS
  have hlt:∀i∈ci,i<listed.size:=fun i hi=>by
   obtain⟨o,ho,_⟩:=hops i hi
   rw[inv.size];exact(alsl.1 ho).1
  have hun:∃i∈ci,listed.getD i true=false:=by
   cases hfl:(ci.filter fun i=> !listed.getD i false)with
   |nil=>rw[hfl]at hcnt;cases hcnt
   |cons i l=>
    have hi:i∈ci.filter fun i=> !listed.getD i false:=by rw[hfl];simp
    obtain⟨h1,h2⟩:=alsm.1 hi
    exact⟨i,h1,getD_in (hlt i h1) (by simpa using h2)⟩
  have hex:∀n i,i≤n→i∈ci→listed.getD i true=false→∃k,k∈Region.ready md ops listed:=by
   intro n
   induction n with
   |zero=>
    intro i hin hi hu
    obtain⟨o,ho,he,_⟩:=hops i hi
    exact⟨i,mem_ready.2 ⟨hu,o,ho,fun e hem hb=>by have:=(he e hem hb).1;omega⟩⟩
   |succ n ihn=>
    intro i hin hi hu
    obtain⟨o,ho,he,_⟩:=hops i hi
    by_cases hall:∀e∈o.after,Region.binds md e=true→listed.getD e.on false=true
    ·exact⟨i,mem_ready.2 ⟨hu,o,ho,hall⟩⟩
    ·simp only[Classical.not_forall]at hall
     obtain⟨e,hem,hb,hn⟩:=hall
     obtain⟨h1,h2⟩:=he e hem hb
     exact ihn e.on (by omega) h2 (getD_in (hlt _ h2) (by simpa using hn))
  obtain⟨i1,hi1,hu1⟩:=hun
  obtain⟨k,hk⟩:=hex i1 i1 (qaA _) hi1 hu1
  rw[show f+1+(ts.length+1)=(f+(ts.length+1))+1 by omega]
  refine⟨fun h0=>(by rw[h0]at hk;cases hk),fun i hi=> ?_⟩
  have htt:∀t∈t0::ts,listed.getD t true=false:=fun t ht=>inv.tail t ht (by have:=alsi.1 htl t ht;simpa using this)
  have hnt:i ∉ t0::ts:=fun h=>by
   rcases alsk.1 h with rfl|h
   ·exact dm inv ci hs ⟨i1,hi1,hu1⟩ hi
   ·exact Bd htt t0 ts (fun _ h=>h) hc i h hi
  obtain⟨hu,o,ho,hall⟩:=mem_ready.1 hi
  have hic:i∈ci:=by
   rcases hcv i (alsl.1 ho).1 with h|h
   ·exact h
   ·exact absurd h hnt
  obtain⟨o',ho',he,hlk⟩:=hops i hic
  obtain rfl:o=o':=qgb (ho.symm.trans ho')
  have hdep:∀j,Region.waitsFor md ops i j=true→listed.getD j false=true∧j<i∧j∈ci:=fun j hj=>by
   obtain⟨oj,hoj,e,hem,hb',hon⟩:=Region.waitsFor_spec hj
   obtain rfl:o=oj:=qgb (ho.symm.trans hoj)
   subst hon
   exact⟨hall e hem hb',he e hem hb'⟩
  obtain⟨o2,d,ho2,hdst,hds,hwp⟩:=hob i hic vals w hb (fun j hj=>hR j (hdep j hj).1)
  obtain rfl:o=o2:=qgb (ho.symm.trans ho2)
  have hag:∀d∈o.looksAt ops,∀j,aM ops j=some d→listed.getD j false=(bw ops ci i).getD j false:=(fun d hd j hj=>by
   have hjs:j<ops.size:=by
    rcases Nat.lt_or_ge j ops.size with h|h
    ·exact h
    ·unfold aM at hj;rw[Array.getElem?_eq_none h]at hj;cases hj
   rw[bg]
   rcases hlk j hjs with h|h|h
   ·rw[getD_both (htt j h)]
    have:j ∉ ci:=fun hh=>hit j hh h
    simp[this]
   ·obtain⟨h1,h2,h3⟩:=hdep j h
    rw[h1];simp[hjs,h2,h3]
   ·exact absurd hd (h d hj))
  have hex2:execOp (frm ops a0 vals listed).eval o=execOp (frm ops a0 vals (bw ops ci i)).eval o:=gA o (fun cs b=>Region.noSelect_spec hsel i o cs b ho) hag
  have hwn:=eC (a0:=a0) (vals:=vals) o hag
  have hdo:aM ops i=o.dst:=by simp[aM,ho]
  have key:∀v w'',Below w.heap.size w w''→R i v w''→Fr i v w→wpAny P md ops (NoPanic Q) (f+(ts.length+1)) (listed.setIfInBounds i true) ((frm ops a0 vals listed).put o.dst v) w'':=fun v w'' hbw hRv hFr=>by
   rw[←hdo,dU hd (hlt i hic)]
   have hun:∀j,listed.getD j false=true→j≠i:=fun j hj e=>by
    subst e
    rw[getD_both hu]at hj
    cases hj
   refine ih _ _ w'' (inv.set hi hnt) ?_ (fB hb hbw) (fun j hj=> ?_) (fun x y hx hy hxy=> ?_)
   ·have:=fy hnd hic hu
    omega
   ·by_cases hji:j=i
    ·subst hji;simpa [upd]using hRv
    ·rw[getD_set_ne false (fun h=>hji h.symm)]at hj
     simp only[upd,if_neg hji]
     exact hst j _ _ _ hbw (hR j hj)
   ·by_cases hxi:x=i
    ·subst hxi
     have hyx:y≠x:=fun e=>hxy e.symm
     rw[getD_set_ne false (fun h=>hxy h)]at hy
     simp only[upd,if_neg hyx,if_true]
     exact hap.new x y v (vals y) w hFr (hR y hy)
    ·rw[getD_set_ne false (fun h=>hxi h.symm)]at hx
     by_cases hyi:y=i
     ·subst hyi
      simp only[upd,if_neg hxi,if_true]
      exact hap.sym _ _ _ _ (hap.new y x v (vals x) w hFr (hR x hx))
     ·rw[getD_set_ne false (fun h=>hyi h.symm)]at hy
      simp only[upd,if_neg hxi,if_neg hyi]
      exact hS x y hx hy hxy
  unfold wpOp
  simp only[ho]
  rw[hwn]
  split
  ·rename_i hw
   rw[if_pos hw]at hwp
   refine .inl (Oper.wp_mono ?_ (iB hex2 hdst hds hwp))
   rintro x w'' ⟨v,rfl,hbw,hRv,hFr⟩
   exact key v w'' hbw hRv hFr
  ·rename_i hw
   rw[if_neg hw]at hwp
   exact key undef w (brf) hwp.1 hwp.2
def pH (P:Program) (md:Region.Mode) (ops:Array Oper) (R Fr:Nat→Value→World→Prop) (w0:World) (Q:Exit→Act→World→Prop) (F:(Nat→Value)→Act→Prop):List Nat→(Nat→Value)→Act→Prop
 | [],vals,a=>F vals a
 |i::l,vals,a=>yZ P md ops R Fr w0 Q i vals a∧∀v,pH P md ops R Fr w0 Q F l (upd vals i v) (a.put (aM ops i) v)
theorem lh {ci:List Nat} {R Fr:Nat→Value→World→Prop} {a0:Act} {w0:World} {F:(Nat→Value)→Act→Prop} (hd:gZ ops=true) (hp:ci.Pairwise (· < ·)) (hlt:∀i∈ci,i<ops.size)
  (hdep:∀i∈ci,∀j,Region.waitsFor md ops i j=true→j<i∧j∈ci):
  ∀(l pre:List Nat) (vals0:Nat→Value),ci=pre++l→pH P md ops R Fr w0 Q F l vals0 (frm ops a0 vals0 (bw ops pre ops.size))→
   (∀i∈l,∀vals:Nat→Value,(∀j∈pre,vals j=vals0 j)→yZ P md ops R Fr w0 Q i vals (frm ops a0 vals (bw ops ci i)))∧
   (∀vals:Nat→Value,(∀j∈pre,vals j=vals0 j)→∃vals1:Nat→Value,(∀j∈ci,vals j=vals1 j)∧F vals1 (frm ops a0 vals1 (bw ops ci ops.size)))
 | [],pre,vals0,he,h=>⟨(fun i hi=>by cases hi),fun vals hv=>⟨vals0,fun j hj=>hv j (by simpa [he]using hj),by rw[he,qgd];exact h⟩⟩
 |i::l,pre,vals0,he,h=>by
  have hpre:∀j,(bw ops pre ops.size).getD j false=true→j∈pre:=fun j hj=>by
   rw[bg]at hj;simp at hj;exact hj.2
  have hu:bw ops ci i=bw ops pre ops.size:=by rw[he];exact jr (he▸hp)
  have hici:i∈ci:=by rw[he];simp
  have step:∀vals:Nat→Value,(∀j∈pre,vals j=vals0 j)→_:=fun vals hv=>
   lh hd hp hlt hdep l (pre++[i]) (upd vals0 i (vals i)) (by rw[he];simp) (by
    have:=h.2 (vals i)
    rw[dU hd (by rw[eD];exact hlt i hici),jq (hlt i hici)]at this
    exact this)
  have agree:∀vals:Nat→Value,(∀j∈pre,vals j=vals0 j)→∀j∈pre++[i],vals j=upd vals0 i (vals i) j:=fun vals hv j hj=>by
   by_cases hji:j=i
   ·subst hji;simp[upd]
   ·simp only[upd,if_neg hji]
    exact hv j (by simpa [hji]using hj)
  refine⟨fun k hk vals hv=> ?_,fun vals hv=>(step vals hv).2 vals (agree vals hv)⟩
  rcases alsk.1 hk with rfl|hk
  ·rw[hu,dO (vals:=vals) (vals':=vals0) (fun j hj=>hv j (hpre j hj))]
   intro w' hb hR
   refine h.1 w' hb (fun j hj=> ?_)
   obtain⟨h1,h2⟩:=hdep k hici j hj
   have hjp:j∈pre:=by
    have h3:(bw ops ci k).getD j false=true:=by rw[bg];simp[hlt j h2,h1,h2]
    rw[hu]at h3
    exact hpre j h3
   rw[←hv j hjp]
   exact hR j hj
  ·exact(step vals hv).1 k hk vals (agree vals hv)
theorem ow {id:Nat} {a:Act} {w:World} {l:List Oper} (ci:List Nat) (t0:Nat) (ts:List Nat) (R Fr:Nat→Value→World→Prop) (S:Nat→Nat→Value→Value→Prop) (hap:Apart R Fr S) (hm:P.follows .mixedOrders=true) (hB:kP .any l.toArray ci t0 ts=true)
  (hst:∀i v w w',Below w.heap.size w w'→R i v w→R i v w')
  (h:pH P .any l.toArray R Fr w Q (fun vals a'=>∀w',Below w.heap.size w w'→(∀i∈ci,R i (vals i) w')→(∀i∈ci,∀j∈ci,i≠j→S i j (vals i) (vals j))→wpList P l.toArray (NoPanic Q) (bu l.toArray (t0::ts)) a' w') ci (fun _=>undef) a):
  (Code.region id l.toArray true).wp P Q a w:=by
 refine wp_region_noPanic (wp_region_any hm ?_)
 have hB':=hB
 simp only[kP,qaF,qfV]at hB
 obtain⟨⟨⟨⟨⟨⟨⟨⟨⟨⟨⟨hsel,hd⟩,hnd⟩,hpw⟩,htl⟩,hsz⟩,hs⟩,hc⟩,hdis⟩,hcov⟩,hop⟩,hfo⟩:=hB
 have hlt:∀i∈ci,i<l.toArray.size:=fun i hi=>by
  have h:=alsi.1 hop i hi
  rcases Nat.lt_or_ge i l.toArray.size with h'|h'
  ·exact h'
  ·rw[Array.getElem?_eq_none h']at h;cases h
 have hdep:∀i∈ci,∀j,Region.waitsFor .any l.toArray i j=true→j<i∧j∈ci:=fun i hi j hj=>by
  have h:=alsi.1 hop i hi
  obtain⟨o,ho,e,hem,hb,rfl⟩:=Region.waitsFor_spec hj
  rw[ho]at h
  simp only[qaF]at h
  have:=Array.all_eq_true'.1 h.1 e hem
  simpa [hb]using this
 have hnil:∀j,(bw l.toArray [] l.toArray.size).getD j false=false:=fun j=>by rw[bg];simp
 have hobs:=lh (P:=P) (md:= .any) (Q:=Q) (R:=R) (Fr:=Fr) (a0:=a) (w0:=w) hd hpw hlt hdep ci [] (fun _=>undef) rfl (by rw[dD hnil];exact h)
 have hrep:∀j,(Array.replicate l.toArray.size false).getD j false=false:=fun j=>getD_replicate_false _ _
 have:=og (P:=P) (Q:=Q) hB' hap (a0:=a) (w0:=w) hst (fun i hi vals=>hobs.1 i hi vals (by simp)) (fun vals w' hb hR hS=>by
   obtain⟨vals1,h1,h2⟩:=hobs.2 vals (by simp)
   rw[dO (vals:=vals) (vals':=vals1) (fun j hj=>h1 j (by rw[bg]at hj;simp at hj;exact hj.2))]
   exact h2 w' hb (fun i hi=>by rw[←h1 i hi];exact hR i hi) (fun i hi j hj hij=>by rw[←h1 i hi, ←h1 j hj];exact hS i hi j hj hij)) ci.length (Array.replicate l.toArray.size false) (fun _=>undef) {w with drawn:=w.drawn+1}
  ⟨fun j oj _ hl=>(by rw[hrep]at hl;cases hl),fun t _ ht=>getD_in (by simpa using ht) (getD_replicate_false _ _),by simp⟩
  (by rw[List.filter_eq_self.2 (fun i _=>by rw[hrep];rfl)]) ⟨rfl,rfl,rfl,qaA _,fun _ _=>rfl⟩ (fun j hj=>by rw[hrep]at hj;cases hj) (fun i j hi=>by rw[hrep]at hi;cases hi)
 rw[dD hrep,hsz]at this
 exact this
section
variable {R Fr:Nat→Value→World→Prop} {w0:World} {F:(Nat→Value)→Act→Prop}
theorem BV {vals:Nat→Value} {a:Act} (h:F vals a):pH P md ops R Fr w0 Q F [] vals a:=h
theorem wgf {i:Nat} {l:List Nat} {vals:Nat→Value} {a:Act} {o:Oper} {d:Nat} (ho:ops[i]? =some o) (hd:o.dst=some d) (hlt:d<a.tmps.size)
  (h1:∀w',Below w0.heap.size w0 w'→(∀j,Region.waitsFor md ops i j=true→R j (vals j) w')→
   ∀K:Act→World→Prop,(∀v w'',Below w'.heap.size w' w''→R i v w''→Fr i v w'→K (a.put (some d) v) w'')→o.wp P a w' K (NoPanic Q))
  (h2:∀v,pH P md ops R Fr w0 Q F l (upd vals i v) (a.put (some d) v)) (hgd:o.guard=none:=by rfl):pH P md ops R Fr w0 Q F (i::l) vals a:=by
 refine⟨fun w' hb hR=>⟨o,d,ho,hd,hlt, ?_⟩,fun v=> ?_⟩
 ·rw[if_pos (by unfold Region.wanted;rw[hgd])]
  exact h1 w' hb hR _ (fun v w'' hb' hr hf=>⟨v,by rw[hd],hb',hr,hf⟩)
 ·have:aM ops i=some d:=by simp[aM,ho,hd]
  rw[this]
  exact h2 v
end
end
def tA (l:List Nat) (i:Nat) (v:Value) (w:World):Prop:=i∈l→v= .pointer (some ⟨w.heap.size,0,none⟩)
def xG (l:List Nat) (i j:Nat) (v u:Value):Prop:=i∈l→j∈l→v≠u
theorem fW {P:Program} {ops:Array Oper} {md:Region.Mode} {Q:Exit→Act→World→Prop} {R:Nat→Value→World→Prop} {l0:List Nat} {w0:World} {F:(Nat→Value)→Act→Prop} {i:Nat} {l:List Nat} {vals:Nat→Value} {a:Act} {o:Oper} {d:Nat} (ho:ops[i]? =some o) (hd:o.dst=some d) (hlt:d<a.tmps.size)
  (h1:∀w',Below w0.heap.size w0 w'→(∀j,Region.waitsFor md ops i j=true→R j (vals j) w')→
   ∀K:Act→World→Prop,(∀v w'',Below w'.heap.size w' w''→R i v w''→K (a.put (some d) v) w'')→o.wp P a w' K (NoPanic Q))
  (h2:∀v,pH P md ops R (tA l0) w0 Q F l (upd vals i v) (a.put (some d) v)) (hgd:o.guard=none:=by rfl) (hn:i ∉ l0:=by decide):pH P md ops R (tA l0) w0 Q F (i::l) vals a:=
 wgf ho hd hlt (fun w' hb hR K hK=>h1 w' hb hR K (fun v w'' h2 h3=>hK v w'' h2 h3 (fun h=>absurd h hn))) h2 hgd
theorem kq {l:List Nat} {R:Nat→Value→World→Prop} (h:∀j∈l,∀u w,R j u w→∃g,u= .pointer (some ⟨g,0,none⟩)∧g<w.heap.size):Apart R (tA l) (xG l) where
 sym _ _ _ _ hs h1 h2 e:=hs h2 h1 e.symm
 new i j v u w hf hr h1 h2 e:=by
  obtain⟨g,hg,hlt⟩:=h j h2 u w hr
  have:=hf h1
  rw[←e,this]at hg
  cases hg
  omega
end
section
open Go.RowKit Go.Shelf
def jd (w:World) (g:Nat) (a b c:Value):World:=((w.setCell ⟨g,0,none⟩ a).setCell ⟨g,1,none⟩ b).setCell ⟨g,2,none⟩ c
theorem eh {w:World} {g:Nat} {x y z:Value} {T:TypeId} (h:w.heap[g]? =some (.cells #[x,y,z] T (0,0))) (a b c:Value):(jd w g a b c).heap[g]? =some (.cells #[a,b,c] T (0,0)):=by
 have:=Tu (Tu (Tu h 0 a) 1 b) 2 c
 unfold jd
 simpa using this
theorem cE {w:World} {g k:Nat} (h:k≠g) (a b c:Value):(jd w g a b c).heap[k]? =w.heap[k]? :=
 (qaH _ _ _ _ h).trans ((qaH _ _ _ _ h).trans (qaH _ _ _ _ h))
theorem dt {B:Nat} {w0 w:World} {g:Nat} (h:Below B w0 w) (hg:B≤g) (a b c:Value):Below B w0 (jd w g a b c):=((h.setCell hg _).setCell hg _).setCell hg _
theorem kr (w:World) (g:Nat) (a b c:Value):(jd w g a b c).heap.size=w.heap.size:=by simp[jd,World.setCell]
theorem qgs {V w:World} {a b c:Nat} {T:TypeId} {x0 x1 x2 y0 y1 y2 z0 z1 z2:Value} (hb:Below V.heap.size V w) (ha:V.heap.size≤a) (hb2:V.heap.size≤b) (hc:V.heap.size≤c) (HA:w.heap[a]? =some (.cells #[x0,x1,x2] T (0,0))) (HB:w.heap[b]? =some (.cells #[y0,y1,y2] T (0,0))) (HC:w.heap[c]? =some (.cells #[z0,z1,z2] T (0,0))) (nab:a≠b) (nac:a≠c) (nbc:b≠c) (d0 d1 d2 e0 e1 e2 f0 f1 f2:Value):
  ∃X,((((((((w.setCell ⟨a,0,none⟩ d0).setCell ⟨a,1,none⟩ d1).setCell ⟨a,2,none⟩ d2).setCell ⟨b,0,none⟩ e0).setCell ⟨b,1,none⟩ e1).setCell ⟨b,2,none⟩ e2).setCell ⟨c,0,none⟩ f0).setCell ⟨c,1,none⟩ f1).setCell ⟨c,2,none⟩ f2=X∧Below V.heap.size V X∧X.heap.size=w.heap.size∧
   X.heap[a]? =some (.cells #[d0,d1,d2] T (0,0))∧X.heap[b]? =some (.cells #[e0,e1,e2] T (0,0))∧X.heap[c]? =some (.cells #[f0,f1,f2] T (0,0)):=
 ⟨jd (jd (jd w a d0 d1 d2) b e0 e1 e2) c f0 f1 f2,rfl,dt (dt (dt hb ha _ _ _) hb2 _ _ _) hc _ _ _,by rw[kr,kr,kr],(cE nac _ _ _).trans ((cE nab _ _ _).trans (eh HA _ _ _)),(cE nbc _ _ _).trans (eh ((cE nab.symm _ _ _).trans HB) _ _ _),eh ((cE nbc.symm _ _ _).trans ((cE nac.symm _ _ _).trans HC)) _ _ _⟩
theorem jG {B:Nat} {T:TypeId} {cs:Array Value}:∀(u:Value) (w:World),yd B T cs u w→∃g,u= .pointer (some ⟨g,0,none⟩)∧g<w.heap.size:=fun _ _ ⟨g,h1,_,h3⟩=>⟨g,h1,ah h3⟩
end
section
open Go.RowKit Go.Shelf
set_option maxRecDepth 100000
attribute [local go_sem] Ext.cell Ext.frozen
structure CX (g N gx gy gz:Nat) (p0 p1 p2 pd q0 q1 q2 qd r0 r1 r2 rd n0 n1 n2 n3 n4 n5 n6 n7 n8:Int) (X:World):Prop where
 P:X.heap[N]? =some (.cells #[.int .i64 p0, .int .i64 p1, .int .i64 p2, .int .i64 pd] 261 (0,0))
 Q:X.heap[N+1]? =some (.cells #[.int .i64 q0, .int .i64 q1, .int .i64 q2, .int .i64 qd] 261 (0,0))
 R:X.heap[N+1+1]? =some (.cells #[.int .i64 r0, .int .i64 r1, .int .i64 r2, .int .i64 rd] 261 (0,0))
 O:X.heap[N+1+1+1]? =some (.cells #[.int .i64 0, .int .i64 0, .int .i64 0, .int .i64 0] 263 (0,0))
 A:X.heap[gx]? =some (.cells #[.int .i64 n0, .int .i64 n1, .int .i64 n2] 37 (0,0))
 B:X.heap[gy]? =some (.cells #[.int .i64 n3, .int .i64 n4, .int .i64 n5] 37 (0,0))
 C:X.heap[gz]? =some (.cells #[.int .i64 n6, .int .i64 n7, .int .i64 n8] 37 (0,0))
 lt:N+1+1+1<g∧gx<g∧gy<g∧gz<g
theorem CX.below {g N gx gy gz:Nat} {p0 p1 p2 pd q0 q1 q2 qd r0 r1 r2 rd n0 n1 n2 n3 n4 n5 n6 n7 n8:Int} {X Y:World} (h:CX g N gx gy gz p0 p1 p2 pd q0 q1 q2 qd r0 r1 r2 rd n0 n1 n2 n3 n4 n5 n6 n7 n8 X) (hb:Below g X Y):CX g N gx gy gz p0 p1 p2 pd q0 q1 q2 qd r0 r1 r2 rd n0 n1 n2 n3 n4 n5 n6 n7 n8 Y:=by
 have:=h.lt
 exact⟨(hb.block _ (by omega)).trans h.P,(hb.block _ (by omega)).trans h.Q,(hb.block _ (by omega)).trans h.R,(hb.block _ (by omega)).trans h.O,(hb.block _ (by omega)).trans h.A,(hb.block _ (by omega)).trans h.B,(hb.block _ (by omega)).trans h.C,h.lt⟩
theorem GA (p q r:Q4):p.1*(q.2.1*r.2.2.1-q.2.2.1*r.2.1)+p.2.1*(q.2.2.1*r.1-q.1*r.2.2.1)+p.2.2.1*(q.1*r.2.1-q.2.1*r.1)=bN p q r:=by
 unfold bN bj aN nrm
 grind
theorem Jh (a b c den:Int) (h0:den≠0):∃G:Int,G≠0∧(den<0→ -(aU [a,b,c,den]:Int)=G)∧(0≤den→(aU [a,b,c,den]:Int)=G)∧eu a b c den=(a.tdiv G,b.tdiv G,c.tdiv G,den.tdiv G):=by
 have hp:=gj a b c den h0
 have e1:=bH (aY [a,b,c,den] a (by simp))
 have e2:=bH (aY [a,b,c,den] b (by simp))
 have e3:=bH (aY [a,b,c,den] c (by simp))
 have e4:=bH (aY [a,b,c,den] den (by simp))
 unfold eu
 by_cases hn:den<0
 ·exact⟨-(aU [a,b,c,den]:Int),by omega,fun _=>rfl,fun h=>by omega,by rw[if_pos hn];simp only[Int.tdiv_neg,e1,e2,e3,e4]⟩
 ·exact⟨(aU [a,b,c,den]:Int),by omega,fun h=>by omega,fun _=>rfl,by rw[if_neg hn,e1,e2,e3,e4]⟩
theorem Cg {a B G:Int} (h: -B≤a∧a≤B): -B≤a.tdiv G∧a.tdiv G≤B:=by
 have h1:(a.tdiv G).natAbs≤a.natAbs:=by rw[Int.natAbs_tdiv];exact Nat.div_le_self _ _
 omega
theorem CI (p q r:Q4) (w:World) (hp:okW p) (hq:okW q) (hr:okW r):
  Calls Tryz.prog 175 #[v4 p,v4 q,v4 r] w (Ret w (.tuple #[v4 (lD p q r), .bool (okB p q r)])):=by
 have He:=GA p q r
 have hdb:=Gz p q r hp hq hr
 have Hm0:Hid (bN p q r=0→lD p q r=(0,0,0,0)∧okB p q r=false):=YJ (fun h=>⟨by unfold lD;rw[if_pos h],by simpa [okB]using h⟩)
 have Hm:Hid (bN p q r≠0→lD p q r=TB p q r (bN p q r)∧okB p q r=true):=YJ (fun h=>⟨by unfold lD;rw[if_neg h],by simpa [okB]using h⟩)
 generalize lD p q r=res at*
 generalize okB p q r=ok at*
 generalize bN p q r=den at*
 have Hm2:Hid (TB p q r den=eu (p.2.2.2*(q.2.1*r.2.2.1-q.2.2.1*r.2.1)+q.2.2.2*(r.2.1*p.2.2.1-r.2.2.1*p.2.1)+r.2.2.2*(p.2.1*q.2.2.1-p.2.2.1*q.2.1)) (p.2.2.2*(q.2.2.1*r.1-q.1*r.2.2.1)+q.2.2.2*(r.2.2.1*p.1-r.1*p.2.2.1)+r.2.2.2*(p.2.2.1*q.1-p.1*q.2.2.1)) (p.2.2.2*(q.1*r.2.1-q.2.1*r.1)+q.2.2.2*(r.1*p.2.1-r.2.1*p.1)+r.2.2.2*(p.1*q.2.1-p.2.1*q.1)) den):=YJ rfl
 rw[Hm2.out]at Hm
 clear Hm2
 obtain⟨p0,p1,p2,pd⟩:=p
 obtain⟨q0,q1,q2,qd⟩:=q
 obtain⟨r0,r1,r2,rd⟩:=r
 simp only[okW]at hp hq hr
 simp only at He
 have b0:=ak hq.2.1 hq.2.2.1 hr.2.1 hr.2.2.1
 have b1:=ak hq.2.2.1 hq.1 hr.2.2.1 hr.1
 have b2:=ak hq.1 hq.2.1 hr.1 hr.2.1
 have b3:=ak hr.2.1 hr.2.2.1 hp.2.1 hp.2.2.1
 have b4:=ak hr.2.2.1 hr.1 hp.2.2.1 hp.1
 have b5:=ak hr.1 hr.2.1 hp.1 hp.2.1
 have b6:=ak hp.2.1 hp.2.2.1 hq.2.1 hq.2.2.1
 have b7:=ak hp.2.2.1 hp.1 hq.2.2.1 hq.1
 have b8:=ak hp.1 hp.2.1 hq.1 hq.2.1
 have hC:=fun W'=>YJ (lk q0 q1 q2 r0 r1 r2 W' (by omega) (by omega) (by omega) (by omega) (by omega) (by omega))
 have hC2:=fun W'=>YJ (lk r0 r1 r2 p0 p1 p2 W' (by omega) (by omega) (by omega) (by omega) (by omega) (by omega))
 have hC3:=fun W'=>YJ (lk p0 p1 p2 q0 q1 q2 W' (by omega) (by omega) (by omega) (by omega) (by omega) (by omega))
 have hD:=fun W'=>YJ (Cf p0 p1 p2 (q1*r2-q2*r1) (q2*r0-q0*r2) (q0*r1-q1*r0) W' (by omega) (by omega) (by omega) (by omega) (by omega) (by omega))
 rw[He]at hD
 clear He
 simp only at Hm
 generalize q1*r2-q2*r1=n0 at*
 generalize q2*r0-q0*r2=n1 at*
 generalize q0*r1-q1*r0=n2 at*
 generalize r1*p2-r2*p1=n3 at*
 generalize r2*p0-r0*p2=n4 at*
 generalize r0*p1-r1*p0=n5 at*
 generalize p1*q2-p2*q1=n6 at*
 generalize p2*q0-p0*q2=n7 at*
 generalize p0*q1-p1*q0=n8 at*
 have D0: -141557760000000≤pd*n0∧pd*n0≤141557760000000:=aJ hp.2.2.2.1 hp.2.2.2.2 b0.1 b0.2
 have D1: -141557760000000≤pd*n1∧pd*n1≤141557760000000:=aJ hp.2.2.2.1 hp.2.2.2.2 b1.1 b1.2
 have D2: -141557760000000≤pd*n2∧pd*n2≤141557760000000:=aJ hp.2.2.2.1 hp.2.2.2.2 b2.1 b2.2
 have D3: -141557760000000≤qd*n3∧qd*n3≤141557760000000:=aJ hq.2.2.2.1 hq.2.2.2.2 b3.1 b3.2
 have D4: -141557760000000≤qd*n4∧qd*n4≤141557760000000:=aJ hq.2.2.2.1 hq.2.2.2.2 b4.1 b4.2
 have D5: -141557760000000≤qd*n5∧qd*n5≤141557760000000:=aJ hq.2.2.2.1 hq.2.2.2.2 b5.1 b5.2
 have D6: -141557760000000≤rd*n6∧rd*n6≤141557760000000:=aJ hr.2.2.2.1 hr.2.2.2.2 b6.1 b6.2
 have D7: -141557760000000≤rd*n7∧rd*n7≤141557760000000:=aJ hr.2.2.2.1 hr.2.2.2.2 b7.1 b7.2
 have D8: -141557760000000≤rd*n8∧rd*n8≤141557760000000:=aJ hr.2.2.2.1 hr.2.2.2.2 b8.1 b8.2
 clear b0 b1 b2 b3 b4 b5 b6 b7 b8 hp hq hr
 obtain⟨V,HV⟩:∃V,Hid ((((w.alloc (.cells #[.int .i64 p0, .int .i64 p1, .int .i64 p2, .int .i64 pd] 261)).alloc (.cells #[.int .i64 q0, .int .i64 q1, .int .i64 q2, .int .i64 qd] 261)).alloc (.cells #[.int .i64 r0, .int .i64 r1, .int .i64 r2, .int .i64 rd] 261)).alloc (.cells #[.int .i64 0, .int .i64 0, .int .i64 0, .int .i64 0] 263)=V):=⟨_,YJ rfl⟩
 have hV:Below w.heap.size w V:=by rw[←HV.out];exact bel
 have BP:Hid (V.heap[w.heap.size]? =some (.cells #[.int .i64 p0, .int .i64 p1, .int .i64 p2, .int .i64 pd] 261 (0,0))):=YJ (by rw[←HV.out];exact(aB (by simp<;>omega)).trans ((aB (by simp<;>omega)).trans ((aB (by simp)).trans (ai rfl))))
 have BQ:Hid (V.heap[w.heap.size+1]? =some (.cells #[.int .i64 q0, .int .i64 q1, .int .i64 q2, .int .i64 qd] 261 (0,0))):=YJ (by rw[←HV.out];exact(aB (by simp<;>omega)).trans ((aB (by simp)).trans (ai (by simp))))
 have BR:Hid (V.heap[w.heap.size+1+1]? =some (.cells #[.int .i64 r0, .int .i64 r1, .int .i64 r2, .int .i64 rd] 261 (0,0))):=YJ (by rw[←HV.out];exact(aB (by simp)).trans (ai (by simp)))
 have BO:Hid (V.heap[w.heap.size+1+1+1]? =some (.cells #[.int .i64 0, .int .i64 0, .int .i64 0, .int .i64 0] 263 (0,0))):=YJ (by rw[←HV.out];exact ai (by simp))
 go_enter Tryz.func175,Tryz.ntmps175
 go_wp2
 rw[HV.out]
 clear HV
 obtain⟨xp0,xp1,xp2,_,_,xpz⟩:=am BP.out
 obtain⟨xq0,xq1,xq2,_,_,xqz⟩:=am BQ.out
 obtain⟨xr0,xr1,xr2,_,_,xrz⟩:=am BR.out
 refine ow [0,1,2,3,4,5,6,7,8,9,10,11,12,13,14,15,16,17] 18 [19,20] (pick [IsV (.pointer (some ⟨w.heap.size+1,0,none⟩)),IsV (V3 q0 q1 q2),IsV (.pointer (some ⟨w.heap.size+1+1,0,none⟩)),IsV (V3 r0 r1 r2),IsV (V3 n0 n1 n2),IsV (.pointer (some ⟨w.heap.size+1+1,0,none⟩)),IsV (V3 r0 r1 r2),IsV (.pointer (some ⟨w.heap.size,0,none⟩)),IsV (V3 p0 p1 p2),IsV (V3 n3 n4 n5),IsV (.pointer (some ⟨w.heap.size,0,none⟩)),IsV (V3 p0 p1 p2),IsV (.pointer (some ⟨w.heap.size+1,0,none⟩)),IsV (V3 q0 q1 q2),IsV (V3 n6 n7 n8),yd V.heap.size 37 #[.int .i64 0, .int .i64 0, .int .i64 0],yd V.heap.size 37 #[.int .i64 0, .int .i64 0, .int .i64 0],yd V.heap.size 37 #[.int .i64 0, .int .i64 0, .int .i64 0]]) (tA [15,16,17]) (xG [15,16,17]) (kq (by simp only[alsk,List.not_mem_nil,or_false,forall_eq_or_imp,forall_eq];exact⟨jG,jG,jG⟩)) (by kernel_rfl) (by kernel_rfl) (Stabs.pick (by repeat(first|exact Stabs.nil|refine Stabs.cons (by first|exact TC _|exact ar _ _ _) ?_))) ?_
 try go_frame
 refine fW rfl rfl (by simp) (fun w' hb' hR K hK=> ?_) (fun o0=> ?_)
 ·clear hR
  go_simp
  exact hK _ _ brf rfl
 try go_frame
 refine fW rfl rfl (by simp) (fun w' hb' hR K hK=> ?_) (fun o1=> ?_)
 ·obtain rfl:o0= .pointer (some ⟨w.heap.size+1,0,none⟩):=hR 0 (by kernel_rfl)
  clear hR
  have y0:=ab hb' xq0
  have y1:=ab hb' xq1
  have y2:=ab hb' xq2
  have yz:=qaG xqz hb'.size
  go_simp
  exact hK _ _ brf rfl
 try go_frame
 refine fW rfl rfl (by simp) (fun w' hb' hR K hK=> ?_) (fun o2=> ?_)
 ·clear hR
  go_simp
  exact hK _ _ brf rfl
 try go_frame
 refine fW rfl rfl (by simp) (fun w' hb' hR K hK=> ?_) (fun o3=> ?_)
 ·obtain rfl:o2= .pointer (some ⟨w.heap.size+1+1,0,none⟩):=hR 2 (by kernel_rfl)
  clear hR
  have y0:=ab hb' xr0
  have y1:=ab hb' xr1
  have y2:=ab hb' xr2
  have yz:=qaG xrz hb'.size
  go_simp
  exact hK _ _ brf rfl
 try go_frame
 refine fW rfl rfl (by simp) (fun w' hb' hR K hK=> ?_) (fun o4=> ?_)
 ·obtain rfl:o1=V3 q0 q1 q2:=hR 1 (by kernel_rfl)
  obtain rfl:o3=V3 r0 r1 r2:=hR 3 (by kernel_rfl)
  clear hR
  go_simp
  refine((hC _).out).mono ?_
  rintro e w1 ⟨rfl,hb1⟩
  exact hK _ _ hb1 rfl
 try go_frame
 refine fW rfl rfl (by simp) (fun w' hb' hR K hK=> ?_) (fun o5=> ?_)
 ·clear hR
  go_simp
  exact hK _ _ brf rfl
 try go_frame
 refine fW rfl rfl (by simp) (fun w' hb' hR K hK=> ?_) (fun o6=> ?_)
 ·obtain rfl:o5= .pointer (some ⟨w.heap.size+1+1,0,none⟩):=hR 5 (by kernel_rfl)
  clear hR
  have y0:=ab hb' xr0
  have y1:=ab hb' xr1
  have y2:=ab hb' xr2
  have yz:=qaG xrz hb'.size
  go_simp
  exact hK _ _ brf rfl
 try go_frame
 refine fW rfl rfl (by simp) (fun w' hb' hR K hK=> ?_) (fun o7=> ?_)
 ·clear hR
  go_simp
  exact hK _ _ brf rfl
 try go_frame
 refine fW rfl rfl (by simp) (fun w' hb' hR K hK=> ?_) (fun o8=> ?_)
 ·obtain rfl:o7= .pointer (some ⟨w.heap.size,0,none⟩):=hR 7 (by kernel_rfl)
  clear hR
  have y0:=ab hb' xp0
  have y1:=ab hb' xp1
  have y2:=ab hb' xp2
  have yz:=qaG xpz hb'.size
  go_simp
  exact hK _ _ brf rfl
 try go_frame
 refine fW rfl rfl (by simp) (fun w' hb' hR K hK=> ?_) (fun o9=> ?_)
 ·obtain rfl:o6=V3 r0 r1 r2:=hR 6 (by kernel_rfl)
  obtain rfl:o8=V3 p0 p1 p2:=hR 8 (by kernel_rfl)
  clear hR
  go_simp
  refine((hC2 _).out).mono ?_
  rintro e w1 ⟨rfl,hb1⟩
  exact hK _ _ hb1 rfl
 try go_frame
 refine fW rfl rfl (by simp) (fun w' hb' hR K hK=> ?_) (fun o10=> ?_)
 ·clear hR
  go_simp
  exact hK _ _ brf rfl
 try go_frame
 refine fW rfl rfl (by simp) (fun w' hb' hR K hK=> ?_) (fun o11=> ?_)
 ·obtain rfl:o10= .pointer (some ⟨w.heap.size,0,none⟩):=hR 10 (by kernel_rfl)
  clear hR
  have y0:=ab hb' xp0
  have y1:=ab hb' xp1
  have y2:=ab hb' xp2
  have yz:=qaG xpz hb'.size
  go_simp
  exact hK _ _ brf rfl
 try go_frame
 refine fW rfl rfl (by simp) (fun w' hb' hR K hK=> ?_) (fun o12=> ?_)
 ·clear hR
  go_simp
  exact hK _ _ brf rfl
 try go_frame
 refine fW rfl rfl (by simp) (fun w' hb' hR K hK=> ?_) (fun o13=> ?_)
 ·obtain rfl:o12= .pointer (some ⟨w.heap.size+1,0,none⟩):=hR 12 (by kernel_rfl)
  clear hR
  have y0:=ab hb' xq0
  have y1:=ab hb' xq1
  have y2:=ab hb' xq2
  have yz:=qaG xqz hb'.size
  go_simp
  exact hK _ _ brf rfl
 try go_frame
 refine fW rfl rfl (by simp) (fun w' hb' hR K hK=> ?_) (fun o14=> ?_)
 ·obtain rfl:o11=V3 p0 p1 p2:=hR 11 (by kernel_rfl)
  obtain rfl:o13=V3 q0 q1 q2:=hR 13 (by kernel_rfl)
  clear hR
  go_simp
  refine((hC3 _).out).mono ?_
  rintro e w1 ⟨rfl,hb1⟩
  exact hK _ _ hb1 rfl
 try go_frame
 refine wgf rfl rfl (by simp) (fun w' hb' hR K hK=> ?_) (fun o15=> ?_)
 ·clear hR
  have zz:=hb'.size
  go_simp
  exact hK _ _ bel ⟨_,rfl,zz,ai rfl⟩ (fun _=>rfl)
 try go_frame
 refine wgf rfl rfl (by simp) (fun w' hb' hR K hK=> ?_) (fun o16=> ?_)
 ·clear hR
  have zz:=hb'.size
  go_simp
  exact hK _ _ bel ⟨_,rfl,zz,ai rfl⟩ (fun _=>rfl)
 try go_frame
 refine wgf rfl rfl (by simp) (fun w' hb' hR K hK=> ?_) (fun o17=> ?_)
 ·clear hR
  have zz:=hb'.size
  go_simp
  exact hK _ _ bel ⟨_,rfl,zz,ai rfl⟩ (fun _=>rfl)
 try go_frame
 refine BV (fun w' hb' hR hS=> ?_)
 obtain rfl:o4=V3 n0 n1 n2:=hR 4 (by simp)
 obtain rfl:o9=V3 n3 n4 n5:=hR 9 (by simp)
 obtain rfl:o14=V3 n6 n7 n8:=hR 14 (by simp)
 obtain⟨gx,rfl,hgx,hA⟩:yd V.heap.size 37 #[.int .i64 0, .int .i64 0, .int .i64 0] o15 w':=hR 15 (by simp)
 obtain⟨gy,rfl,hgy,hB⟩:yd V.heap.size 37 #[.int .i64 0, .int .i64 0, .int .i64 0] o16 w':=hR 16 (by simp)
 obtain⟨gz,rfl,hgz,hC'⟩:yd V.heap.size 37 #[.int .i64 0, .int .i64 0, .int .i64 0] o17 w':=hR 17 (by simp)
 have nab:gx≠gy:=fun e=>hS 15 (by simp) 16 (by simp) (by decide) (by decide) (by decide) (by rw[e];rfl)
 have nac:gx≠gz:=fun e=>hS 15 (by simp) 17 (by simp) (by decide) (by decide) (by decide) (by rw[e];rfl)
 have nbc:gy≠gz:=fun e=>hS 16 (by simp) 17 (by simp) (by decide) (by decide) (by decide) (by rw[e];rfl)
 have HA:=YJ hA
 have HB:=YJ hB
 have HC:=YJ hC'
 clear hR hS hA hB hC' xp0 xp1 xp2 xpz xq0 xq1 xq2 xqz xr0 xr1 xr2 xrz hC hC2 hC3
 obtain⟨a0,a1,a2,af,az⟩:=NO HA.out
 obtain⟨b0',b1',b2',bf,bz⟩:=NO HB.out
 obtain⟨c0,c1,c2,cf,cz⟩:=NO HC.out
 obtain⟨X,eX,hVX,hXs,XA,XB,XC⟩:=qgs hb' hgx hgy hgz HA.out HB.out HC.out nab nac nbc (.int .i64 n0) (.int .i64 n1) (.int .i64 n2) (.int .i64 n3) (.int .i64 n4) (.int .i64 n5) (.int .i64 n6) (.int .i64 n7) (.int .i64 n8)
 obtain⟨g,Hg⟩:∃g,Hid (X.heap.size=g):=⟨_,YJ rfl⟩
 have zO:=ah BO.out
 have HPX:Hid (CX g w.heap.size gx gy gz p0 p1 p2 pd q0 q1 q2 qd r0 r1 r2 rd n0 n1 n2 n3 n4 n5 n6 n7 n8 X):=YJ ⟨(hVX.block _ (ah BP.out)).trans BP.out,(hVX.block _ (ah BQ.out)).trans BQ.out,(hVX.block _ (ah BR.out)).trans BR.out,(hVX.block _ (ah BO.out)).trans BO.out,XA,XB,XC,by have:=hVX.size;rw[←Hg.out];omega⟩
 simp only[oas]
 go_wp2
 refine NoPanic.normal ?_
 try rw[eX]
 have hwX:Below w.heap.size w X:=fB hV hVX
 clear eX XA XB XC HA HB HC a0 a1 a2 af az b0' b1' b2' bf bz c0 c1 c2 cf cz nab nac nbc hb' hVX hV hXs zO hgx hgy hgz BP BQ BR BO
 obtain⟨xp0,xp1,xp2,_,_,xpz⟩:=am HPX.out.P
 obtain⟨a0,a1,a2,_,az⟩:=NO HPX.out.A
 go_wp2_with fail
 refine((hD _).out).mono ?_
 rintro e X1 ⟨rfl,hb1⟩
 have hwX1:=fB hwX hb1
 rw[Hg.out]at hb1
 have HP1:=YJ (HPX.out.below hb1)
 have hg1:=hb1.size
 rw[Hg.out]at hg1
 clear xp0 xp1 xp2 xpz a0 a1 a2 az HPX hD hwX hb1 Hg
 by_cases h0:den=0
 ·subst h0
  obtain⟨rfl,rfl⟩:=Hm0.out (by trivial)
  obtain⟨o0,o1,o2,o3,of,oz⟩:=am HP1.out.O
  clear Hm hdb D0 D1 D2 D3 D4 D5 D6 D7 D8
  go_wp2
  refine bodyPost_ret (v:= .tuple #[v4 (0,0,0,0), .bool false]) (by simp[results,Tryz.results175,go_sem,o0,o1,o2,o3,oz]) rfl ⟨?_, ?_⟩
  ·rfl
  ·iterate 4 (refine qga ?_ (by first|exact qaA _|exact Nat.le_succ _|(simp;done)|(simp;omega)) _)
   exact hwX1
 obtain⟨hm,rfl⟩:=Hm.out h0
 clear Hm
 have Hm:=YJ hm
 have hne:(den==0)=false:=by simpa using h0
 have H0:=YJ h0
 clear h0 hm Hm0
 obtain⟨Y,HY⟩:∃Y,Hid (X1.alloc (.cells #[.int .i64 0, .int .i64 0, .int .i64 0, .int .i64 0] 263)=Y):=⟨_,YJ rfl⟩
 obtain⟨g1,Hg1⟩:∃g1,Hid (X1.heap.size=g1):=⟨_,YJ rfl⟩
 have hXY:Below g1 X1 Y:=by rw[←HY.out, ←Hg1.out];exact bel
 have HV0:Hid (Y.heap[g1]? =some (.cells #[.int .i64 0, .int .i64 0, .int .i64 0, .int .i64 0] 263 (0,0))):=YJ (by rw[←HY.out, ←Hg1.out];exact ai rfl)
 rw[Hg1.out]at hg1
 have HPY:Hid (CX g1 w.heap.size gx gy gz p0 p1 p2 pd q0 q1 q2 qd r0 r1 r2 rd n0 n1 n2 n3 n4 n5 n6 n7 n8 Y):=YJ (by
  have h:=HP1.out
  have l:=h.lt
  have h':CX g1 w.heap.size gx gy gz p0 p1 p2 pd q0 q1 q2 qd r0 r1 r2 rd n0 n1 n2 n3 n4 n5 n6 n7 n8 X1:=⟨h.P,h.Q,h.R,h.O,h.A,h.B,h.C,by omega⟩
  exact h'.below hXY)
 have hwY:Below w.heap.size w Y:=fB hwX1 (by rw[Hg1.out];exact hXY)
 go_wp2
 rw[HY.out,Hg1.out]
 clear HY hXY HP1 hwX1 Hg1 hg1
 generalize g1=g at*
 have zg:w.heap.size≤g:=by have:=HPY.out.lt;omega
 go_loopw [38] (fun x wr=>∃k:Int,0≤k∧k≤3∧x= .int .i64 k∧Below g Y wr∧Hid (wr.heap[g]? =some (.cells #[.int .i64 (if 1≤k then pd*n0+qd*n3+rd*n6 else 0), .int .i64 (if 2≤k then pd*n1+qd*n4+rd*n7 else 0), .int .i64 (if 3≤k then pd*n2+qd*n5+rd*n8 else 0), .int .i64 0] 263 (0,0)))) (fun x _=>3-(intOf x).toNat)
 case atStart=>exact⟨0,by omega,by omega,rfl,brf,YJ (by simpa using HV0.out)⟩
 case round=>
  clear HV0
  obtain⟨k,hk0,hk,rfl,hb,HVb⟩:=hrel
  have HX:=YJ (HPY.out.below hb)
  rcases(by omega:k=0∨k=1∨k=2∨k=3)with rfl|rfl|rfl|rfl
  ·simp only[show ¬(1:Int)≤0 by decide,show ¬(2:Int)≤0 by decide,show ¬(3:Int)≤0 by decide,if_false]at HVb
   obtain⟨x0,x1,x2,_,xz⟩:=NO HX.out.A
   obtain⟨y0,y1,y2,_,yz⟩:=NO HX.out.B
   obtain⟨z0,z1,z2,_,zz⟩:=NO HX.out.C
   obtain⟨_,_,_,pP,_,zP⟩:=am HX.out.P
   obtain⟨_,_,_,pQ,_,zQ⟩:=am HX.out.Q
   obtain⟨_,_,_,pR,_,zR⟩:=am HX.out.R
   have vz:=ah HVb.out
   have vf:=aC HVb.out
   go_wp2
   refine aQ 23 (by kernel_rfl) (by kernel_rfl) ?_
   simp only[qdv,qdu,qdw,qdy]
   repeat(first|go_big_quiet_step (fail)|quiet_step (fail))
   refine wpQuiet_nil ?_
   rintro _ ⟨u,rfl⟩
   have HV2:=YJ ((u.below.block _ vz).trans HVb.out)
   have hb2:Below g Y u.val:=hb.trans (u.below.mono (by omega))
   obtain⟨vv0,vv1,vv2,vv3,vf2,vz2⟩:=am HV2.out
   clear vz vf
   go_wp2
   go_roundw
   case rel=>exact⟨1,by omega,by omega,by first|rfl|go_num,hb2.setCell (qaA _) _,YJ (by have:=Tu HV2.out 0 (.int .i64 (pd*n0+qd*n3+rd*n6));simpa using this)⟩
   first|decide|(simp[intOf];done)|(simp[intOf];omega)
  ·simp only[show(1:Int)≤1 by decide,show ¬(2:Int)≤1 by decide,show ¬(3:Int)≤1 by decide,if_false,if_true]at HVb
   obtain⟨x0,x1,x2,_,xz⟩:=NO HX.out.A
   obtain⟨y0,y1,y2,_,yz⟩:=NO HX.out.B
   obtain⟨z0,z1,z2,_,zz⟩:=NO HX.out.C
   obtain⟨_,_,_,pP,_,zP⟩:=am HX.out.P
   obtain⟨_,_,_,pQ,_,zQ⟩:=am HX.out.Q
   obtain⟨_,_,_,pR,_,zR⟩:=am HX.out.R
   have vz:=ah HVb.out
   have vf:=aC HVb.out
   go_wp2
   refine aQ 23 (by kernel_rfl) (by kernel_rfl) ?_
   simp only[qdv,qdu,qdw,qdy]
   repeat(first|go_big_quiet_step (fail)|quiet_step (fail))
   refine wpQuiet_nil ?_
   rintro _ ⟨u,rfl⟩
   have HV2:=YJ ((u.below.block _ vz).trans HVb.out)
   have hb2:Below g Y u.val:=hb.trans (u.below.mono (by omega))
   obtain⟨vv0,vv1,vv2,vv3,vf2,vz2⟩:=am HV2.out
   clear vz vf
   go_wp2
   go_roundw
   case rel=>exact⟨2,by omega,by omega,by first|rfl|go_num,hb2.setCell (qaA _) _,YJ (by have:=Tu HV2.out 1 (.int .i64 (pd*n1+qd*n4+rd*n7));simpa using this)⟩
   first|decide|(simp[intOf];done)|(simp[intOf];omega)
  ·simp only[show(1:Int)≤2 by decide,show(2:Int)≤2 by decide,show ¬(3:Int)≤2 by decide,if_false,if_true]at HVb
   obtain⟨x0,x1,x2,_,xz⟩:=NO HX.out.A
   obtain⟨y0,y1,y2,_,yz⟩:=NO HX.out.B
   obtain⟨z0,z1,z2,_,zz⟩:=NO HX.out.C
   obtain⟨_,_,_,pP,_,zP⟩:=am HX.out.P
   obtain⟨_,_,_,pQ,_,zQ⟩:=am HX.out.Q
   obtain⟨_,_,_,pR,_,zR⟩:=am HX.out.R
   have vz:=ah HVb.out
   have vf:=aC HVb.out
   go_wp2
   refine aQ 23 (by kernel_rfl) (by kernel_rfl) ?_
   simp only[qdv,qdu,qdw,qdy]
   repeat(first|go_big_quiet_step (fail)|quiet_step (fail))
   refine wpQuiet_nil ?_
   rintro _ ⟨u,rfl⟩
   have HV2:=YJ ((u.below.block _ vz).trans HVb.out)
   have hb2:Below g Y u.val:=hb.trans (u.below.mono (by omega))
   obtain⟨vv0,vv1,vv2,vv3,vf2,vz2⟩:=am HV2.out
   clear vz vf
   go_wp2
   go_roundw
   case rel=>exact⟨3,by omega,by omega,by first|rfl|go_num,hb2.setCell (qaA _) _,YJ (by have:=Tu HV2.out 2 (.int .i64 (pd*n2+qd*n5+rd*n8));simpa using this)⟩
   first|decide|(simp[intOf];done)|(simp[intOf];omega)
  ·simp only[show(1:Int)≤3 by decide,show(2:Int)≤3 by decide,show(3:Int)≤3 by decide,if_true]at HVb
   have E0: -500000000000000≤pd*n0+qd*n3+rd*n6∧pd*n0+qd*n3+rd*n6≤500000000000000:=by omega
   have E1: -500000000000000≤pd*n1+qd*n4+rd*n7∧pd*n1+qd*n4+rd*n7≤500000000000000:=by omega
   have E2: -500000000000000≤pd*n2+qd*n5+rd*n8∧pd*n2+qd*n5+rd*n8≤500000000000000:=by omega
   clear D0 D1 D2 D3 D4 D5 D6 D7 D8 HX
   generalize pd*n0+qd*n3+rd*n6=s0 at*
   generalize pd*n1+qd*n4+rd*n7=s1 at*
   generalize pd*n2+qd*n5+rd*n8=s2 at*
   obtain⟨G,hG0,hGn,hGp,hGP⟩:=Jh s0 s1 s2 den H0.out
   have HPT:=YJ hGP
   have HGn:=YJ hGn
   have HGp:=YJ hGp
   have t1:=Cg (G:=G) E0
   have t2:=Cg (G:=G) E1
   have t3:=Cg (G:=G) E2
   have t4:=Cg (G:=G) hdb
   have hle:=jl 500000000000000 s0 s1 s2 den (by omega) (by omega) (by omega) (by omega)
   have HGC:=fun W T (g:Nat) (hg:g=W.heap.size)=>YJ (DH W T s0 s1 s2 den g hg (by omega) (by omega) (by omega) (by omega))
   generalize eu s0 s1 s2 den=pt at*
   generalize aU [s0,s1,s2,den]=gg at*
   clear hGP hGn hGp
   obtain⟨v0,v1,v2,v3,_,vz⟩:=am HVb.out
   go_wp2_with fail
   refine((HGC _ _ _ (by simp)).out).mono ?_
   rintro e w2 ⟨rfl,hb2⟩
   have hrw:Below g wr w2:=by
    refine Below.trans ?_ (hb2.mono (by simp;omega))
    exact(brf).alloc (by omega) _
   have HV2:=YJ ((hb2.block g (by simp;omega)).trans ((aB (by omega)).trans HVb.out))
   have hbu:=hb.trans hrw
   clear hb hb2 HVb v0 v1 v2 v3 vz HGC hrw E0 E1 E2
   by_cases hneg:den<0
   ·have HGe:=YJ (HGn.out hneg)
    clear HGn HGp
    go_wp2
    rw[HGe.out]
    go_loopw [81] (fun x wr=>∃k:Int,0≤k∧k≤3∧x= .int .i64 k∧Below g Y wr∧Hid (wr.heap[g]? =some (.cells #[.int .i64 (if 1≤k then s0.tdiv G else s0), .int .i64 (if 2≤k then s1.tdiv G else s1), .int .i64 (if 3≤k then s2.tdiv G else s2), .int .i64 0] 263 (0,0)))) (fun x _=>3-(intOf x).toNat)
    case atStart=>exact⟨0,by omega,by omega,rfl,hbu,YJ (by simpa using HV2.out)⟩
    case round=>
     clear HV2 hbu
     obtain⟨k,hk0,hk,rfl,hb,HVb⟩:=hrel
     rcases(by omega:k=0∨k=1∨k=2∨k=3)with rfl|rfl|rfl|rfl
     ·simp only[show ¬(1:Int)≤0 by decide,show ¬(2:Int)≤0 by decide,show ¬(3:Int)≤0 by decide,if_false]at HVb
      obtain⟨v0,v1,v2,v3,vf,vz⟩:=am HVb.out
      go_wp2
      go_roundw
      case rel=>exact⟨1,by omega,by omega,by first|rfl|go_num,hb.setCell (qaA _) _,YJ (by have:=Tu HVb.out 0 (.int .i64 (s0.tdiv G));simpa using this)⟩
      first|decide|(simp[intOf];done)|(simp[intOf];omega)
     ·simp only[show(1:Int)≤1 by decide,show ¬(2:Int)≤1 by decide,show ¬(3:Int)≤1 by decide,if_false,if_true]at HVb
      obtain⟨v0,v1,v2,v3,vf,vz⟩:=am HVb.out
      go_wp2
      go_roundw
      case rel=>exact⟨2,by omega,by omega,by first|rfl|go_num,hb.setCell (qaA _) _,YJ (by have:=Tu HVb.out 1 (.int .i64 (s1.tdiv G));simpa using this)⟩
      first|decide|(simp[intOf];done)|(simp[intOf];omega)
     ·simp only[show(1:Int)≤2 by decide,show(2:Int)≤2 by decide,show ¬(3:Int)≤2 by decide,if_false,if_true]at HVb
      obtain⟨v0,v1,v2,v3,vf,vz⟩:=am HVb.out
      go_wp2
      go_roundw
      case rel=>exact⟨3,by omega,by omega,by first|rfl|go_num,hb.setCell (qaA _) _,YJ (by have:=Tu HVb.out 2 (.int .i64 (s2.tdiv G));simpa using this)⟩
      first|decide|(simp[intOf];done)|(simp[intOf];omega)
     ·simp only[show(1:Int)≤3 by decide,show(2:Int)≤3 by decide,show(3:Int)≤3 by decide,if_true]at HVb
      have HXr:=YJ (HPY.out.below hb)
      obtain⟨v0,v1,v2,v3,vf,vz⟩:=am HVb.out
      obtain⟨o0,o1,o2,o3,of,oz⟩:=am HXr.out.O
      have hog:w.heap.size+1+1+1<g:=HXr.out.lt.1
      have hwr:Below w.heap.size w wr:=hwY.trans (hb.mono (by omega))
      go_wp2
      refine bodyPost_ret (v:= .tuple #[v4 (s0.tdiv G,s1.tdiv G,s2.tdiv G,den.tdiv G), .bool true]) (by simp[results,Tryz.results175,go_sem,o0,o1,o2,o3,oz]) rfl ⟨?_, ?_⟩
      ·rw[Hm.out,HPT.out]
      ·refine qga ?_ (by simp;omega) _
       refine qga ?_ (by simp;omega) _
       refine qga ?_ (by simp;omega) _
       refine qga ?_ (by simp;omega) _
       refine qga ?_ (by simp;omega) _
       exact hwr
   ·have HGe:=YJ (HGp.out (by omega))
    clear HGn HGp
    go_wp2
    rw[HGe.out]
    go_loopw [81] (fun x wr=>∃k:Int,0≤k∧k≤3∧x= .int .i64 k∧Below g Y wr∧Hid (wr.heap[g]? =some (.cells #[.int .i64 (if 1≤k then s0.tdiv G else s0), .int .i64 (if 2≤k then s1.tdiv G else s1), .int .i64 (if 3≤k then s2.tdiv G else s2), .int .i64 0] 263 (0,0)))) (fun x _=>3-(intOf x).toNat)
    case atStart=>exact⟨0,by omega,by omega,rfl,hbu,YJ (by simpa using HV2.out)⟩
    case round=>
     clear HV2 hbu
     obtain⟨k,hk0,hk,rfl,hb,HVb⟩:=hrel
     rcases(by omega:k=0∨k=1∨k=2∨k=3)with rfl|rfl|rfl|rfl
     ·simp only[show ¬(1:Int)≤0 by decide,show ¬(2:Int)≤0 by decide,show ¬(3:Int)≤0 by decide,if_false]at HVb
      obtain⟨v0,v1,v2,v3,vf,vz⟩:=am HVb.out
      go_wp2
      go_roundw
      case rel=>exact⟨1,by omega,by omega,by first|rfl|go_num,hb.setCell (qaA _) _,YJ (by have:=Tu HVb.out 0 (.int .i64 (s0.tdiv G));simpa using this)⟩
      first|decide|(simp[intOf];done)|(simp[intOf];omega)
     ·simp only[show(1:Int)≤1 by decide,show ¬(2:Int)≤1 by decide,show ¬(3:Int)≤1 by decide,if_false,if_true]at HVb
      obtain⟨v0,v1,v2,v3,vf,vz⟩:=am HVb.out
      go_wp2
      go_roundw
      case rel=>exact⟨2,by omega,by omega,by first|rfl|go_num,hb.setCell (qaA _) _,YJ (by have:=Tu HVb.out 1 (.int .i64 (s1.tdiv G));simpa using this)⟩
      first|decide|(simp[intOf];done)|(simp[intOf];omega)
     ·simp only[show(1:Int)≤2 by decide,show(2:Int)≤2 by decide,show ¬(3:Int)≤2 by decide,if_false,if_true]at HVb
      obtain⟨v0,v1,v2,v3,vf,vz⟩:=am HVb.out
      go_wp2
      go_roundw
      case rel=>exact⟨3,by omega,by omega,by first|rfl|go_num,hb.setCell (qaA _) _,YJ (by have:=Tu HVb.out 2 (.int .i64 (s2.tdiv G));simpa using this)⟩
      first|decide|(simp[intOf];done)|(simp[intOf];omega)
     ·simp only[show(1:Int)≤3 by decide,show(2:Int)≤3 by decide,show(3:Int)≤3 by decide,if_true]at HVb
      have HXr:=YJ (HPY.out.below hb)
      obtain⟨v0,v1,v2,v3,vf,vz⟩:=am HVb.out
      obtain⟨o0,o1,o2,o3,of,oz⟩:=am HXr.out.O
      have hog:w.heap.size+1+1+1<g:=HXr.out.lt.1
      have hwr:Below w.heap.size w wr:=hwY.trans (hb.mono (by omega))
      go_wp2
      refine bodyPost_ret (v:= .tuple #[v4 (s0.tdiv G,s1.tdiv G,s2.tdiv G,den.tdiv G), .bool true]) (by simp[results,Tryz.results175,go_sem,o0,o1,o2,o3,oz]) rfl ⟨?_, ?_⟩
      ·rw[Hm.out,HPT.out]
      ·refine qga ?_ (by simp;omega) _
       refine qga ?_ (by simp;omega) _
       refine qga ?_ (by simp;omega) _
       refine qga ?_ (by simp;omega) _
       refine qga ?_ (by simp;omega) _
       exact hwr
end
end Go.Proofs.YtffbilcjhlncfaaGreatDoor
