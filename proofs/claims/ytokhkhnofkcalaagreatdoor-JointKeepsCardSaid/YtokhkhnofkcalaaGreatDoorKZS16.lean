/- texts: W1 G4 Pl W2 W3 W4 W5. -/
import Derived.Test.YtokhkhnofkcalaaGreatDoorKZS15
namespace Go.Proofs.YtokhkhnofkcalaaGreatDoor
set_option maxHeartbeats 8000000
set_option linter.unusedSimpArgs false
set_option linter.unusedVariables false
section
open Go.RowKit Go.Shelf
attribute [local go_sem] Ext.cell Ext.frozen
theorem jF (a b:Int) (w:World) (ha: -1000000000000000≤a∧a≤1000000000000000) (hb: -1000000000000000≤b∧b≤1000000000000000):
  Calls Tryz.prog 167 #[.int .i64 a, .int .i64 b] w (Ret w (.int .i64 (Nat.gcd a.natAbs b.natAbs:Nat))):=by
 have h1:=fun W'=>Lib.hid (sj a W' ha)
 have h2:=fun W'=>Lib.hid (sj b W' hb)
 obtain⟨m,hm⟩:∃m,a.natAbs=m:=⟨_,rfl⟩
 obtain⟨n,hn⟩:∃n,b.natAbs=n:=⟨_,rfl⟩
 have hm':m≤1000000000000000:=by omega
 have hn':n≤1000000000000000:=by omega
 rw[hm]at h1 ⊢
 rw[hn]at h2 ⊢
 clear hm hn ha hb
 go_enter Tryz.func167,Tryz.ntmps167
 go_wp2_with fail
 refine((h1 _).out).mono ?_
 rintro e w1 ⟨rfl,rfl⟩
 go_wp2_with fail
 refine((h2 _).out).mono ?_
 rintro e w2 ⟨rfl,rfl⟩
 go_wp2
 go_loopw [0,1] (fun x y wr=>∃p q:Nat,p≤1000000000000000∧q≤1000000000000000∧x= .int .i64 p∧y= .int .i64 q∧Hid (Nat.gcd m n=Nat.gcd p q)∧Below w.heap.size w wr) (fun _ y _=>(intOf y).toNat)
 case atStart=>exact⟨m,n,hm',hn',rfl,rfl,Lib.hid rfl,Below.refl _ _⟩
 case round=>
  obtain⟨p,q,hp,hq,rfl,rfl,Hr,hb⟩:=hrel
  by_cases hz:0<q
  ·go_wp2
   go_quiet (fail)
   go_wp2
   go_roundw
   case rel=>exact⟨q,p % q,hq,by have:=Nat.mod_lt p hz;omega,by go_num,by go_num,Lib.hid (by rw[oK];exact Hr.out),hb.drewN' _⟩
   case measure=>simp[intOf];have:=Nat.mod_lt p hz;omega
  ·obtain rfl:q=0:=by omega
   go_wp2
   go_ret
   exact⟨aK (by rw[Hr.out];simp),hb⟩
theorem sy (a b c d:Int):Nat.gcd (Int.natAbs ((Nat.gcd a.natAbs b.natAbs:Nat):Int)) (Int.natAbs ((Nat.gcd c.natAbs d.natAbs:Nat):Int))=aU [a,b,c,d]:=by
 simp[aU,Nat.gcd_assoc]
theorem lH {a b:Int} {B:Nat} (h:b.natAbs≤B) (h0:a.natAbs≤B):Nat.gcd a.natAbs b.natAbs≤B:=by
 by_cases hz:b.natAbs=0
 ·rw[hz];simpa using h0
 ·exact Nat.le_trans (Nat.gcd_le_right _ (by omega)) h
set_option maxRecDepth 100000 in
theorem pF (a b c d:Int) (w:World) (ha: -10000000≤a∧a≤10000000) (hb: -10000000≤b∧b≤10000000) (hc: -10000000≤c∧c≤10000000) (hd: -10000000≤d∧d≤10000000) (h0:a≠0∨b≠0∨c≠0):
  Calls Tryz.prog 128 #[V4 a b c d] w (Ret w (V4 (dG (a,b,c,d)).1 (dG (a,b,c,d)).2.1 (dG (a,b,c,d)).2.2.1 (dG (a,b,c,d)).2.2.2)):=by
 have hp:=iV a b c d h0
 have hle:=jl 10000000000 a b c d (by omega) (by omega) (by omega) (by omega)
 have e1:=Lib.hid (bH (aY [a,b,c,d] a (by simp)))
 have e2:=Lib.hid (bH (aY [a,b,c,d] b (by simp)))
 have e3:=Lib.hid (bH (aY [a,b,c,d] c (by simp)))
 have e4:=Lib.hid (bH (aY [a,b,c,d] d (by simp)))
 have Hp:Hid (dG (a,b,c,d)=(a / aU [a,b,c,d],b / aU [a,b,c,d],c / aU [a,b,c,d],d / aU [a,b,c,d])):=Lib.hid rfl
 have t1:=bZ (g:=aU [a,b,c,d]) ha
 have t2:=bZ (g:=aU [a,b,c,d]) hb
 have t3:=bZ (g:=aU [a,b,c,d]) hc
 have t4:=bZ (g:=aU [a,b,c,d]) hd
 have l1:Nat.gcd a.natAbs b.natAbs≤10000000:=lH (by omega) (by omega)
 have l2:Nat.gcd c.natAbs d.natAbs≤10000000:=lH (by omega) (by omega)
 have HG:Hid (Nat.gcd (Nat.gcd a.natAbs b.natAbs) (Nat.gcd c.natAbs d.natAbs)=aU [a,b,c,d]):=Lib.hid (by simpa using sy a b c d)
 generalize dG (a,b,c,d)=r at*
 generalize aU [a,b,c,d]=g at*
 go_enter Tryz.func128,Tryz.ntmps128
 go_wp2
 refine wqb ?_
 repeat(first|go_big_quiet_step ((go_at_call 167;exact aE (jF _ _ _ (by omega) (by omega))))|quiet_step ((go_at_call 167;exact aE (jF _ _ _ (by omega) (by omega)))))
 refine wqn fun u=> ?_
 simp only[Int.natAbs_natCast]
 rw[HG.out]
 have hw1:Below w.heap.size w u.val:=ae bel u.below
 have HA:=Lib.hid ((u.below.block w.heap.size (by simp;omega)).trans ((aB (by simp)).trans (ai rfl)))
 have HB:=Lib.hid ((u.below.block (w.heap.size+1) (by simp)).trans (ai (by simp)))
 generalize u.val=w1 at*
 clear u
 have c0:=(ag HA.out 0).trans rfl
 have c1:=(ag HA.out 1).trans rfl
 have c2:=(ag HA.out 2).trans rfl
 have c3:=(ag HA.out 3).trans rfl
 have d0:=(ag HB.out 0).trans rfl
 have d1:=(ag HB.out 1).trans rfl
 have d2:=(ag HB.out 2).trans rfl
 have d3:=(ag HB.out 3).trans rfl
 simp only[List.getElem?_toArray,List.getElem?_cons_zero,List.getElem?_cons_succ]at c0 c1 c2 c3 d0 d1 d2 d3
 have f0:=aC HB.out
 have z0:=ah HA.out
 have z1:=ah HB.out
 go_wp2
 refine aQ 17 (by kernel_rfl) (by kernel_rfl) ?_
 simp only[List.take_succ_cons,List.take_zero,List.drop_succ_cons,List.drop_zero]
 repeat(first|go_big_quiet_step (fail)|quiet_step (fail))
 refine wpQuiet_nil ?_
 rintro _ ⟨u,rfl⟩
 go_wp2
 refine bodyPost_ret (v:=V4 (a.tdiv g) (b.tdiv g) (c.tdiv g) (d.tdiv g)) (by simp[results,Tryz.results128,go_sem,z1,d0,d1,d2,d3]) rfl ⟨?_, ?_⟩
 ·rw[Hp.out,e1.out,e2.out,e3.out,e4.out]
 ·exact bel
theorem mU (a b c d a' b' c' d':Int) (w:World):
  Calls Tryz.prog 130 #[V4 a b c d,V4 a' b' c' d'] w (Ret w (.bool (decide (bD (a,b,c,d) (a',b',c',d')<0)))):=by
 have He:Hid (decide (bD (a,b,c,d) (a',b',c',d')<0)=decide (a<a'∨(a=a'∧(b<b'∨(b=b'∧(c<c'∨(c=c'∧d<d'))))))):=Lib.hid (by
  rw[decide_eq_decide,dx])
 rw[He.out]
 clear He
 by_cases ha:a=a'
 ·subst ha
  by_cases hb:b=b'
  ·subst hb
   by_cases hc:c=c'
   ·subst hc
    go_enter Tryz.func130,Tryz.ntmps130
    go_wp2
    go_ret
    exact⟨ay (by simp),bel⟩
   ·have hc':(c !=c')=true:=by simpa using hc
    go_enter Tryz.func130,Tryz.ntmps130
    go_wp2
    go_ret
    exact⟨ay (by simp[hc]),bel⟩
  ·have hb':(b !=b')=true:=by simpa using hb
   go_enter Tryz.func130,Tryz.ntmps130
   go_wp2
   go_ret
   exact⟨ay (by simp[hb]),bel⟩
 ·have ha':(a !=a')=true:=by simpa using ha
  go_enter Tryz.func130,Tryz.ntmps130
  go_wp2
  go_ret
  exact⟨ay (by simp[ha]),bel⟩
theorem eb (a b c d:Int) (w:World):Calls Tryz.prog 111 #[V4 a b c d] w (Ret w (V3 a b c)):=by
 go_enter Tryz.func111,Tryz.ntmps111
 go_wp2
 refine bodyPost_ret (v:=V3 a b c) (by simp[results,Tryz.results111,go_sem]) rfl ⟨rfl, ?_⟩
 exact bel
theorem eG (a b c x y z:Int) (w:World) (ha: -8≤a∧a≤8) (hb: -8≤b∧b≤8) (hc: -8≤c∧c≤8) (hx: -8≤x∧x≤8) (hy: -8≤y∧y≤8) (hz: -8≤z∧z≤8):
  Calls Tryz.prog 170 #[V3 a b c,V3 x y z] w (Ret w (V3 (b*z-c*y) (c*x-a*z) (a*y-b*x))):=by
 have h1:=aJ hb.1 hb.2 hz.1 hz.2
 have h2:=aJ hc.1 hc.2 hy.1 hy.2
 have h3:=aJ hc.1 hc.2 hx.1 hx.2
 have h4:=aJ ha.1 ha.2 hz.1 hz.2
 have h5:=aJ ha.1 ha.2 hy.1 hy.2
 have h6:=aJ hb.1 hb.2 hx.1 hx.2
 clear ha hb hc hx hy hz
 simp only[Int.reduceMul,Int.reduceNeg]at h1 h2 h3 h4 h5 h6
 go_enter Tryz.func170,Tryz.ntmps170
 go_wp2
 refine bodyPost_ret (v:=V3 (b*z-c*y) (c*x-a*z) (a*y-b*x)) (by simp[results,Tryz.results170,go_sem]) rfl ⟨rfl, ?_⟩
 exact bel
theorem pG (a b c x y z:Int) (w:World) (ha: -8≤a∧a≤8) (hb: -8≤b∧b≤8) (hc: -8≤c∧c≤8) (hx: -128≤x∧x≤128) (hy: -128≤y∧y≤128) (hz: -128≤z∧z≤128):
  Calls Tryz.prog 110 #[V3 a b c,V3 x y z] w (Ret w (.int .i64 (a*x+b*y+c*z))):=by
 have h1:=aJ ha.1 ha.2 hx.1 hx.2
 have h2:=aJ hb.1 hb.2 hy.1 hy.2
 have h3:=aJ hc.1 hc.2 hz.1 hz.2
 clear ha hb hc hx hy hz
 simp only[Int.reduceMul,Int.reduceNeg]at h1 h2 h3
 go_enter Tryz.func110,Tryz.ntmps110
 go_wp2
 go_ret
 exact⟨rfl,bel⟩
end
section
open Go.RowKit
section
variable {P:Program} {ops:Array Oper} {md:Region.Mode} {Q:Exit→Act→World→Prop}
structure Apart (R:Nat→Value→World→Prop) (Fr:Nat→Value→World→Prop) (S:Nat→Nat→Value→Value→Prop):Prop where
 sym:∀i j v u,S i j v u→S j i u v
 new:∀i j v u w,Fr i v w→R j u w→S i j v u
def yZ (P:Program) (md:Region.Mode) (ops:Array Oper) (R Fr:Nat→Value→World→Prop) (w0:World) (Q:Exit→Act→World→Prop) (i:Nat) (vals:Nat→Value) (a:Act):Prop:=
 ∀w',Below w0.heap.size w0 w'→(∀j,Region.waitsFor md ops i j=true→R j (vals j) w')→
  ∃o d,ops[i]? =some o∧o.dst=some d∧d<a.tmps.size∧if Region.wanted o (yielded ops a.tmps)=true then o.wp P a w' (fun x w''=>∃v,x=a.put o.dst v∧Below w'.heap.size w' w''∧R i v w''∧Fr i v w') (NoPanic Q)else R i undef w'∧Fr i undef w'
theorem og {ci:List Nat} {t0:Nat} {ts:List Nat} (hB:kP md ops ci t0 ts=true) {R Fr:Nat→Value→World→Prop} {S:Nat→Nat→Value→Value→Prop} (hap:Apart R Fr S) {a0:Act} {w0:World}
  (hst:∀i v w w',Below w.heap.size w w'→R i v w→R i v w')
  (hob:∀i∈ci,∀vals,yZ P md ops R Fr w0 Q i vals (frm ops a0 vals (bw ops ci i)))
  (hfin:∀vals w',Below w0.heap.size w0 w'→(∀i∈ci,R i (vals i) w')→(∀i∈ci,∀j∈ci,i≠j→S i j (vals i) (vals j))→wpList P ops (NoPanic Q) (bu ops (t0::ts)) (frm ops a0 vals (bw ops ci ops.size)) w'):
  ∀(f:Nat) (listed:Array Bool) (vals:Nat→Value) (w:World),Inv md ops (t0::ts) listed→(ci.filter fun i=> !listed.getD i false).length=f→Below w0.heap.size w0 w→
   (∀j,listed.getD j false=true→R j (vals j) w)→(∀i j,listed.getD i false=true→listed.getD j false=true→i≠j→S i j (vals i) (vals j))→wpAny P md ops (NoPanic Q) (f+(ts.length+1)) listed (frm ops a0 vals listed) w:=by
 simp only[kP,Bool.and_eq_true,decide_eq_true_eq]at hB
 obtain⟨⟨⟨⟨⟨⟨⟨⟨⟨⟨⟨hsel,hd⟩,hnd⟩,_⟩,htl⟩,hsz⟩,hs⟩,hc⟩,hdis⟩,hcov⟩,hop⟩,hfo⟩:=hB
 have hit:∀i∈ci,i ∉ t0::ts:=fun i hi=>by have:=List.all_eq_true.1 hdis i hi;simpa using this
 have hcv:∀j,j<ops.size→j∈ci∨j∈t0::ts:=fun j hj=>by have:=List.all_eq_true.1 hcov j (List.mem_range.2 hj);simpa using this
 have hops:∀i∈ci,∃o,ops[i]? =some o∧(∀e∈o.after,Region.binds md e=true→e.on<i∧e.on∈ci)∧(∀j,j<ops.size→j∈t0::ts∨Region.waitsFor md ops i j=true∨∀d,aM ops j=some d→d ∉ o.looksAt ops):=fun i hi=>by
  have h:=List.all_eq_true.1 hop i hi
  cases ho:ops[i]? with
  |none=>rw[ho]at h;cases h
  |some o=>
   rw[ho]at h
   simp only[Bool.and_eq_true]at h
   obtain⟨he,hl⟩:=h
   refine⟨o,rfl,fun e hem hb=> ?_,fun j hj=> ?_⟩
   ·have:=Array.all_eq_true'.1 he e hem
    simpa [hb]using this
   ·have:=List.all_eq_true.1 hl j (List.mem_range.2 hj)
    simp only[Bool.or_eq_true]at this
    rcases this with(h|h)|h
    ·exact .inl (by simpa using h)
    ·exact .inr (.inl h)
    ·refine .inr (.inr fun d hd hm=> ?_)
     rw[hd]at h
     simp[hm]at h
 intro f
 induction f with
 |zero=>
  intro listed vals w inv hcnt hb hR hS
  have hall:∀i∈ci,listed.getD i false=true:=fun i hi=>by
   have:=List.filter_eq_nil_iff.1 (List.length_eq_zero_iff.1 hcnt) i hi
   simpa using this
  have hL:listed=bw ops ci ops.size:=by
   have hsz2:(bw ops ci ops.size).size=ops.size:=by simp[bw]
   apply Array.ext (by rw[inv.size,hsz2])
   intro j h1 h2
   have e1:listed[j]=listed.getD j false:=by simp[Array.getD,h1]
   have e2:(bw ops ci ops.size)[j]=(bw ops ci ops.size).getD j false:=by simp[Array.getD,h2]
   have hj:j<ops.size:=by rw[←inv.size];exact h1
   rw[e1,e2,bg]
   rcases hcv j hj with h|h
   ·rw[hall j h];simp[hj,h]
   ·rw[getD_both (inv.tail j h hj)]
    have:j ∉ ci:=fun hh=>hit j hh h
    simp[this]
  rw[Nat.zero_add]
  subst hL
  exact dg (t0::ts) _ _ w hfo (hfin vals w hb (fun i hi=>hR i (hall i hi)) (fun i hi j hj hij=>hS i j (hall i hi) (hall j hj) hij))
 |succ f ih=>
  intro listed vals w inv hcnt hb hR hS
  have hlt:∀i∈ci,i<listed.size:=fun i hi=>by
   obtain⟨o,ho,_⟩:=hops i hi
   rw[inv.size];exact(Array.getElem?_eq_some_iff.1 ho).1
  have hun:∃i∈ci,listed.getD i true=false:=by
   cases hfl:(ci.filter fun i=> !listed.getD i false)with
   |nil=>rw[hfl]at hcnt;cases hcnt
   |cons i l=>
    have hi:i∈ci.filter fun i=> !listed.getD i false:=by rw[hfl];simp
    obtain⟨h1,h2⟩:=List.mem_filter.1 hi
    exact⟨i,h1,getD_in (hlt i h1) (by simpa using h2)⟩
  have hex:∀n i,i≤n→i∈ci→listed.getD i true=false→∃k,k∈Region.ready md ops listed:=by
   intro n
   induction n with
   |zero=>
    intro i hin hi hu
    obtain⟨o,ho,he,_⟩:=hops i hi
    exact⟨i,mem_ready.2 ⟨hu,o,ho,fun e hem hb=>by have:=(he e hem hb).1;omega⟩⟩
   |succ n ihn=>
    intro i hin hi hu
    obtain⟨o,ho,he,_⟩:=hops i hi
    by_cases hall:∀e∈o.after,Region.binds md e=true→listed.getD e.on false=true
    ·exact⟨i,mem_ready.2 ⟨hu,o,ho,hall⟩⟩
    ·simp only[Classical.not_forall]at hall
     obtain⟨e,hem,hb,hn⟩:=hall
     obtain⟨h1,h2⟩:=he e hem hb
     exact ihn e.on (by omega) h2 (getD_in (hlt _ h2) (by simpa using hn))
  obtain⟨i1,hi1,hu1⟩:=hun
  obtain⟨k,hk⟩:=hex i1 i1 (Nat.le_refl _) hi1 hu1
  rw[show f+1+(ts.length+1)=(f+(ts.length+1))+1 by omega]
  refine⟨fun h0=>(by rw[h0]at hk;cases hk),fun i hi=> ?_⟩
  have htt:∀t∈t0::ts,listed.getD t true=false:=fun t ht=>inv.tail t ht (by have:=List.all_eq_true.1 htl t ht;simpa using this)
  have hnt:i ∉ t0::ts:=fun h=>by
   rcases List.mem_cons.1 h with rfl|h
   ·exact dm inv ci hs ⟨i1,hi1,hu1⟩ hi
   ·exact Bd htt t0 ts (fun _ h=>h) hc i h hi
  obtain⟨hu,o,ho,hall⟩:=mem_ready.1 hi
  have hic:i∈ci:=by
   rcases hcv i (Array.getElem?_eq_some_iff.1 ho).1 with h|h
   ·exact h
   ·exact absurd h hnt
  obtain⟨o',ho',he,hlk⟩:=hops i hic
  obtain rfl:o=o':=Option.some.inj (ho.symm.trans ho')
  have hdep:∀j,Region.waitsFor md ops i j=true→listed.getD j false=true∧j<i∧j∈ci:=fun j hj=>by
   obtain⟨oj,hoj,e,hem,hb',hon⟩:=Region.waitsFor_spec hj
   obtain rfl:o=oj:=Option.some.inj (ho.symm.trans hoj)
   subst hon
   exact⟨hall e hem hb',he e hem hb'⟩
  obtain⟨o2,d,ho2,hdst,hds,hwp⟩:=hob i hic vals w hb (fun j hj=>hR j (hdep j hj).1)
  obtain rfl:o=o2:=Option.some.inj (ho.symm.trans ho2)
  have hag:∀d∈o.looksAt ops,∀j,aM ops j=some d→listed.getD j false=(bw ops ci i).getD j false:=(fun d hd j hj=>by
   have hjs:j<ops.size:=by
    rcases Nat.lt_or_ge j ops.size with h|h
    ·exact h
    ·unfold aM at hj;rw[Array.getElem?_eq_none h]at hj;cases hj
   rw[bg]
   rcases hlk j hjs with h|h|h
   ·rw[getD_both (htt j h)]
    have:j ∉ ci:=fun hh=>hit j hh h
    simp[this]
   ·obtain⟨h1,h2,h3⟩:=hdep j h
    rw[h1];simp[hjs,h2,h3]
   ·exact absurd hd (h d hj))
  have hex2:execOp (frm ops a0 vals listed).eval o=execOp (frm ops a0 vals (bw ops ci i)).eval o:=gA o (fun cs b=>Region.noSelect_spec hsel i o cs b ho) hag
  have hwn:=eC (a0:=a0) (vals:=vals) o hag
  have hdo:aM ops i=o.dst:=by simp[aM,ho]
  have key:∀v w'',Below w.heap.size w w''→R i v w''→Fr i v w→wpAny P md ops (NoPanic Q) (f+(ts.length+1)) (listed.setIfInBounds i true) ((frm ops a0 vals listed).put o.dst v) w'':=fun v w'' hbw hRv hFr=>by
   rw[←hdo,dU hd (hlt i hic)]
   have hun:∀j,listed.getD j false=true→j≠i:=fun j hj e=>by
    subst e
    rw[getD_both hu]at hj
    cases hj
   refine ih _ _ w'' (inv.set hi hnt) ?_ (ae hb hbw) (fun j hj=> ?_) (fun x y hx hy hxy=> ?_)
   ·have:=fy hnd hic hu
    omega
   ·by_cases hji:j=i
    ·subst hji;simpa [upd]using hRv
    ·rw[getD_set_ne false (fun h=>hji h.symm)]at hj
     simp only[upd,if_neg hji]
     exact hst j _ _ _ hbw (hR j hj)
   ·by_cases hxi:x=i
    ·subst hxi
     have hyx:y≠x:=fun e=>hxy e.symm
     rw[getD_set_ne false (fun h=>hxy h)]at hy
     simp only[upd,if_neg hyx,if_true]
     exact hap.new x y v (vals y) w hFr (hR y hy)
    ·rw[getD_set_ne false (fun h=>hxi h.symm)]at hx
     by_cases hyi:y=i
     ·subst hyi
      simp only[upd,if_neg hxi,if_true]
      exact hap.sym _ _ _ _ (hap.new y x v (vals x) w hFr (hR x hx))
     ·rw[getD_set_ne false (fun h=>hyi h.symm)]at hy
      simp only[upd,if_neg hxi,if_neg hyi]
      exact hS x y hx hy hxy
  unfold wpOp
  simp only[ho]
  rw[hwn]
  split
  ·rename_i hw
   rw[if_pos hw]at hwp
   refine .inl (Oper.wp_mono ?_ (iB hex2 hdst hds hwp))
   rintro x w'' ⟨v,rfl,hbw,hRv,hFr⟩
   exact key v w'' hbw hRv hFr
  ·rename_i hw
   rw[if_neg hw]at hwp
   exact key undef w (Below.refl _ _) hwp.1 hwp.2
def pH (P:Program) (md:Region.Mode) (ops:Array Oper) (R Fr:Nat→Value→World→Prop) (w0:World) (Q:Exit→Act→World→Prop) (F:(Nat→Value)→Act→Prop):List Nat→(Nat→Value)→Act→Prop
 | [],vals,a=>F vals a
 |i::l,vals,a=>yZ P md ops R Fr w0 Q i vals a∧∀v,pH P md ops R Fr w0 Q F l (upd vals i v) (a.put (aM ops i) v)
theorem lh {ci:List Nat} {R Fr:Nat→Value→World→Prop} {a0:Act} {w0:World} {F:(Nat→Value)→Act→Prop} (hd:gZ ops=true) (hp:ci.Pairwise (· < ·)) (hlt:∀i∈ci,i<ops.size)
  (hdep:∀i∈ci,∀j,Region.waitsFor md ops i j=true→j<i∧j∈ci):
  ∀(l pre:List Nat) (vals0:Nat→Value),ci=pre++l→pH P md ops R Fr w0 Q F l vals0 (frm ops a0 vals0 (bw ops pre ops.size))→
   (∀i∈l,∀vals:Nat→Value,(∀j∈pre,vals j=vals0 j)→yZ P md ops R Fr w0 Q i vals (frm ops a0 vals (bw ops ci i)))∧
   (∀vals:Nat→Value,(∀j∈pre,vals j=vals0 j)→∃vals1:Nat→Value,(∀j∈ci,vals j=vals1 j)∧F vals1 (frm ops a0 vals1 (bw ops ci ops.size)))
 | [],pre,vals0,he,h=>⟨(fun i hi=>by cases hi),fun vals hv=>⟨vals0,fun j hj=>hv j (by simpa [he]using hj),by rw[he,List.append_nil];exact h⟩⟩
 |i::l,pre,vals0,he,h=>by
  have hpre:∀j,(bw ops pre ops.size).getD j false=true→j∈pre:=fun j hj=>by
   rw[bg]at hj;simp at hj;exact hj.2
  have hu:bw ops ci i=bw ops pre ops.size:=by rw[he];exact jr (he▸hp)
  have hici:i∈ci:=by rw[he];simp
  have step:∀vals:Nat→Value,(∀j∈pre,vals j=vals0 j)→_:=fun vals hv=>
   lh hd hp hlt hdep l (pre++[i]) (upd vals0 i (vals i)) (by rw[he];simp) (by
    have:=h.2 (vals i)
    rw[dU hd (by rw[eD];exact hlt i hici),jq (hlt i hici)]at this
    exact this)
  have agree:∀vals:Nat→Value,(∀j∈pre,vals j=vals0 j)→∀j∈pre++[i],vals j=upd vals0 i (vals i) j:=fun vals hv j hj=>by
   by_cases hji:j=i
   ·subst hji;simp[upd]
   ·simp only[upd,if_neg hji]
    exact hv j (by simpa [hji]using hj)
  refine⟨fun k hk vals hv=> ?_,fun vals hv=>(step vals hv).2 vals (agree vals hv)⟩
  rcases List.mem_cons.1 hk with rfl|hk
  ·rw[hu,dO (vals:=vals) (vals':=vals0) (fun j hj=>hv j (hpre j hj))]
   intro w' hb hR
   refine h.1 w' hb (fun j hj=> ?_)
   obtain⟨h1,h2⟩:=hdep k hici j hj
   have hjp:j∈pre:=by
    have h3:(bw ops ci k).getD j false=true:=by rw[bg];simp[hlt j h2,h1,h2]
    rw[hu]at h3
    exact hpre j h3
   rw[←hv j hjp]
   exact hR j hj
  ·exact(step vals hv).1 k hk vals (agree vals hv)
theorem fk {id:Nat} {a:Act} {w:World} {l:List Oper} (ci:List Nat) (t0:Nat) (ts:List Nat) (R Fr:Nat→Value→World→Prop) (S:Nat→Nat→Value→Value→Prop) (hap:Apart R Fr S) (hm:P.follows .mixedOrders=true) (hB:kP .any l.toArray ci t0 ts=true)
  (hst:∀i v w w',Below w.heap.size w w'→R i v w→R i v w')
  (h:pH P .any l.toArray R Fr w Q (fun vals a'=>∀w',Below w.heap.size w w'→(∀i∈ci,R i (vals i) w')→(∀i∈ci,∀j∈ci,i≠j→S i j (vals i) (vals j))→wpList P l.toArray (NoPanic Q) (bu l.toArray (t0::ts)) a' w') ci (fun _=>undef) a):
  (Code.region id l.toArray true).wp P Q a w:=by
 refine wp_region_noPanic (wp_region_any hm ?_)
 have hB':=hB
 simp only[kP,Bool.and_eq_true,decide_eq_true_eq]at hB
 obtain⟨⟨⟨⟨⟨⟨⟨⟨⟨⟨⟨hsel,hd⟩,hnd⟩,hpw⟩,htl⟩,hsz⟩,hs⟩,hc⟩,hdis⟩,hcov⟩,hop⟩,hfo⟩:=hB
 have hlt:∀i∈ci,i<l.toArray.size:=fun i hi=>by
  have h:=List.all_eq_true.1 hop i hi
  rcases Nat.lt_or_ge i l.toArray.size with h'|h'
  ·exact h'
  ·rw[Array.getElem?_eq_none h']at h;cases h
 have hdep:∀i∈ci,∀j,Region.waitsFor .any l.toArray i j=true→j<i∧j∈ci:=fun i hi j hj=>by
  have h:=List.all_eq_true.1 hop i hi
  obtain⟨o,ho,e,hem,hb,rfl⟩:=Region.waitsFor_spec hj
  rw[ho]at h
  simp only[Bool.and_eq_true]at h
  have:=Array.all_eq_true'.1 h.1 e hem
  simpa [hb]using this
 have hnil:∀j,(bw l.toArray [] l.toArray.size).getD j false=false:=fun j=>by rw[bg];simp
 have hobs:=lh (P:=P) (md:= .any) (Q:=Q) (R:=R) (Fr:=Fr) (a0:=a) (w0:=w) hd hpw hlt hdep ci [] (fun _=>undef) rfl (by rw[dD hnil];exact h)
 have hrep:∀j,(Array.replicate l.toArray.size false).getD j false=false:=fun j=>getD_replicate_false _ _
 have:=og (P:=P) (Q:=Q) hB' hap (a0:=a) (w0:=w) hst (fun i hi vals=>hobs.1 i hi vals (by simp)) (fun vals w' hb hR hS=>by
   obtain⟨vals1,h1,h2⟩:=hobs.2 vals (by simp)
   rw[dO (vals:=vals) (vals':=vals1) (fun j hj=>h1 j (by rw[bg]at hj;simp at hj;exact hj.2))]
   exact h2 w' hb (fun i hi=>by rw[←h1 i hi];exact hR i hi) (fun i hi j hj hij=>by rw[←h1 i hi, ←h1 j hj];exact hS i hi j hj hij)) ci.length (Array.replicate l.toArray.size false) (fun _=>undef) {w with drawn:=w.drawn+1}
  ⟨fun j oj _ hl=>(by rw[hrep]at hl;cases hl),fun t _ ht=>getD_in (by simpa using ht) (getD_replicate_false _ _),by simp⟩
  (by rw[List.filter_eq_self.2 (fun i _=>by rw[hrep];rfl)]) ⟨rfl,rfl,rfl,Nat.le_refl _,fun _ _=>rfl⟩ (fun j hj=>by rw[hrep]at hj;cases hj) (fun i j hi=>by rw[hrep]at hi;cases hi)
 rw[dD hrep,hsz]at this
 exact this
section
variable {R Fr:Nat→Value→World→Prop} {w0:World} {F:(Nat→Value)→Act→Prop}
theorem my {vals:Nat→Value} {a:Act} (h:F vals a):pH P md ops R Fr w0 Q F [] vals a:=h
theorem wgf {i:Nat} {l:List Nat} {vals:Nat→Value} {a:Act} {o:Oper} {d:Nat} (ho:ops[i]? =some o) (hd:o.dst=some d) (hlt:d<a.tmps.size)
  (h1:∀w',Below w0.heap.size w0 w'→(∀j,Region.waitsFor md ops i j=true→R j (vals j) w')→
   ∀K:Act→World→Prop,(∀v w'',Below w'.heap.size w' w''→R i v w''→Fr i v w'→K (a.put (some d) v) w'')→o.wp P a w' K (NoPanic Q))
  (h2:∀v,pH P md ops R Fr w0 Q F l (upd vals i v) (a.put (some d) v)) (hgd:o.guard=none:=by rfl):pH P md ops R Fr w0 Q F (i::l) vals a:=by
 refine⟨fun w' hb hR=>⟨o,d,ho,hd,hlt, ?_⟩,fun v=> ?_⟩
 ·rw[if_pos (by unfold Region.wanted;rw[hgd])]
  exact h1 w' hb hR _ (fun v w'' hb' hr hf=>⟨v,by rw[hd],hb',hr,hf⟩)
 ·have:aM ops i=some d:=by simp[aM,ho,hd]
  rw[this]
  exact h2 v
end
end
def tA (l:List Nat) (i:Nat) (v:Value) (w:World):Prop:=i∈l→v= .pointer (some ⟨w.heap.size,0,none⟩)
def xG (l:List Nat) (i j:Nat) (v u:Value):Prop:=i∈l→j∈l→v≠u
theorem fW {P:Program} {ops:Array Oper} {md:Region.Mode} {Q:Exit→Act→World→Prop} {R:Nat→Value→World→Prop} {l0:List Nat} {w0:World} {F:(Nat→Value)→Act→Prop} {i:Nat} {l:List Nat} {vals:Nat→Value} {a:Act} {o:Oper} {d:Nat} (ho:ops[i]? =some o) (hd:o.dst=some d) (hlt:d<a.tmps.size)
  (h1:∀w',Below w0.heap.size w0 w'→(∀j,Region.waitsFor md ops i j=true→R j (vals j) w')→
   ∀K:Act→World→Prop,(∀v w'',Below w'.heap.size w' w''→R i v w''→K (a.put (some d) v) w'')→o.wp P a w' K (NoPanic Q))
  (h2:∀v,pH P md ops R (tA l0) w0 Q F l (upd vals i v) (a.put (some d) v)) (hgd:o.guard=none:=by rfl) (hn:i ∉ l0:=by decide):pH P md ops R (tA l0) w0 Q F (i::l) vals a:=
 wgf ho hd hlt (fun w' hb hR K hK=>h1 w' hb hR K (fun v w'' h2 h3=>hK v w'' h2 h3 (fun h=>absurd h hn))) h2 hgd
theorem kq {l:List Nat} {R:Nat→Value→World→Prop} (h:∀j∈l,∀u w,R j u w→∃g,u= .pointer (some ⟨g,0,none⟩)∧g<w.heap.size):Apart R (tA l) (xG l) where
 sym _ _ _ _ hs h1 h2 e:=hs h2 h1 e.symm
 new i j v u w hf hr h1 h2 e:=by
  obtain⟨g,hg,hlt⟩:=h j h2 u w hr
  have:=hf h1
  rw[←e,this]at hg
  cases hg
  omega
end
section
open Go.RowKit Go.Shelf
theorem cN {B:Nat} {w:World} {v:Value} {ps:List Q4} {n:Nat} (h:w.ownsRow B 69 4 v n (ps.flatMap aH)):PlanesV 0 w v ps:=by
 have hl:=h.1
 rcases h.2 with⟨rfl,h0⟩|⟨g,cap,cur,rfl,hb,hh,hnc,hcm,hcs,htk⟩
 ·subst h0
  exact⟨⟨none,0,0,rfl,hl,fun _=>⟨rfl,rfl⟩,fun ad h=>by cases h⟩,fun a m c _=>Nat.zero_le _⟩
 ·refine⟨⟨some ⟨g,0,none⟩,n,cap,rfl,hl,fun h=>(by cases h),fun ad had j u hu=> ?_⟩,fun a m c _=>Nat.zero_le _⟩
  cases had
  rw[jY,ag hh]
  have hj:=(List.getElem?_eq_some_iff.1 hu).1
  rw[←htk,List.getElem?_take]at hu
  split at hu
  ·rw[←hu];simp
  ·cases hu
theorem ff {w:World} {g:Nat} {x0 x1 x2 x3:Value} {t:TypeId} (h:w.heap[g]? =some (.cells #[x0,x1,x2,x3] t (0,0))):w.cell? ⟨g,0,none⟩=some x0∧w.cell? ⟨g,1,none⟩=some x1∧w.cell? ⟨g,2,none⟩=some x2∧w.cell? ⟨g,3,none⟩=some x3∧(∀i,w.frozen? ⟨g,i,none⟩=false)∧g<w.heap.size:=
 ⟨(ag h 0).trans rfl,(ag h 1).trans rfl,(ag h 2).trans rfl,(ag h 3).trans rfl,aC h,ah h⟩
def tB (w:World) (g:Nat) (a b c d:Value):World:=(((w.setCell ⟨g,0,none⟩ a).setCell ⟨g,1,none⟩ b).setCell ⟨g,2,none⟩ c).setCell ⟨g,3,none⟩ d
theorem pI {w:World} {g:Nat} {x y z u:Value} {T:TypeId} (h:w.heap[g]? =some (.cells #[x,y,z,u] T (0,0))) (a b c d:Value):(tB w g a b c d).heap[g]? =some (.cells #[a,b,c,d] T (0,0)):=by
 have:=br (br (br (br h 0 a) 1 b) 2 c) 3 d
 unfold tB
 simpa using this
theorem jG {B:Nat} {T:TypeId} {cs:Array Value}:∀(u:Value) (w:World),da B T cs u w→∃g,u= .pointer (some ⟨g,0,none⟩)∧g<w.heap.size:=fun _ _ ⟨g,h1,_,h3⟩=>⟨g,h1,ah h3⟩
end
section
open Go.RowKit Go.Shelf
set_option maxRecDepth 100000
attribute [local go_sem] Ext.cell Ext.frozen
def jd (w:World) (g:Nat) (a b c:Value):World:=((w.setCell ⟨g,0,none⟩ a).setCell ⟨g,1,none⟩ b).setCell ⟨g,2,none⟩ c
theorem eh {w:World} {g:Nat} {x y z:Value} {T:TypeId} (h:w.heap[g]? =some (.cells #[x,y,z] T (0,0))) (a b c:Value):(jd w g a b c).heap[g]? =some (.cells #[a,b,c] T (0,0)):=by
 have:=br (br (br h 0 a) 1 b) 2 c
 unfold jd
 simpa using this
theorem cE {w:World} {g k:Nat} (h:k≠g) (a b c:Value):(jd w g a b c).heap[k]? =w.heap[k]? :=
 (Below.heap_setCell _ _ _ _ h).trans ((Below.heap_setCell _ _ _ _ h).trans (Below.heap_setCell _ _ _ _ h))
theorem dt {B:Nat} {w0 w:World} {g:Nat} (h:Below B w0 w) (hg:B≤g) (a b c:Value):Below B w0 (jd w g a b c):=((h.setCell hg _).setCell hg _).setCell hg _
theorem kr (w:World) (g:Nat) (a b c:Value):(jd w g a b c).heap.size=w.heap.size:=by simp[jd,World.setCell]
theorem vA (p q r:Q4):p.1*(q.2.1*r.2.2.1-q.2.2.1*r.2.1)+p.2.1*(q.2.2.1*r.1-q.1*r.2.2.1)+p.2.2.1*(q.1*r.2.1-q.2.1*r.1)=bN p q r:=by
 unfold bN bj aN nrm
 grind
structure PB (N ga gb gc:Nat) (p0 p1 p2 pd q0 q1 q2 qd r0 r1 r2 rd:Int) (X:World):Prop where
 P:X.heap[N]? =some (.cells #[.int .i64 p0, .int .i64 p1, .int .i64 p2, .int .i64 pd] 69 (0,0))
 Q:X.heap[N+1]? =some (.cells #[.int .i64 q0, .int .i64 q1, .int .i64 q2, .int .i64 qd] 69 (0,0))
 R:X.heap[N+1+1]? =some (.cells #[.int .i64 r0, .int .i64 r1, .int .i64 r2, .int .i64 rd] 69 (0,0))
 O:X.heap[N+1+1+1]? =some (.cells #[.int .i64 0, .int .i64 0, .int .i64 0, .int .i64 0] 143 (0,0))
 A:X.heap[ga]? =some (.cells #[.int .i64 p0, .int .i64 p1, .int .i64 p2] 22 (0,0))
 B:X.heap[gb]? =some (.cells #[.int .i64 q0, .int .i64 q1, .int .i64 q2] 22 (0,0))
 C:X.heap[gc]? =some (.cells #[.int .i64 r0, .int .i64 r1, .int .i64 r2] 22 (0,0))
theorem PB.below {N ga gb gc:Nat} {p0 p1 p2 pd q0 q1 q2 qd r0 r1 r2 rd:Int} {X Y:World} (h:PB N ga gb gc p0 p1 p2 pd q0 q1 q2 qd r0 r1 r2 rd X) (hb:Below X.heap.size X Y):PB N ga gb gc p0 p1 p2 pd q0 q1 q2 qd r0 r1 r2 rd Y:=
 ⟨(hb.block _ (ah h.P)).trans h.P,(hb.block _ (ah h.Q)).trans h.Q,(hb.block _ (ah h.R)).trans h.R,(hb.block _ (ah h.O)).trans h.O,(hb.block _ (ah h.A)).trans h.A,(hb.block _ (ah h.B)).trans h.B,(hb.block _ (ah h.C)).trans h.C⟩
theorem pJ (p q r:Q4) (w:World) (hp:bI p) (hq:bI q) (hr:bI r) (h0:bN p q r=0):
  Calls Tryz.prog 150 #[v4 p,v4 q,v4 r] w (Ret w (.tuple #[v4 (0,0,0,0), .bool false])):=by
 have He:=vA p q r
 rw[h0]at He
 clear h0
 obtain⟨p0,p1,p2,pd⟩:=p
 obtain⟨q0,q1,q2,qd⟩:=q
 obtain⟨r0,r1,r2,rd⟩:=r
 simp only[bI]at hp hq hr
 have b0:=aL hq.2.1 hq.2.2.1 hr.2.1 hr.2.2.1
 have b1:=aL hq.2.2.1 hq.1 hr.2.2.1 hr.1
 have b2:=aL hq.1 hq.2.1 hr.1 hr.2.1
 have hC:=fun W'=>Lib.hid (eG q0 q1 q2 r0 r1 r2 W' (by omega) (by omega) (by omega) (by omega) (by omega) (by omega))
 have hC2:=fun W'=>Lib.hid (eG r0 r1 r2 p0 p1 p2 W' (by omega) (by omega) (by omega) (by omega) (by omega) (by omega))
 have hC3:=fun W'=>Lib.hid (eG p0 p1 p2 q0 q1 q2 W' (by omega) (by omega) (by omega) (by omega) (by omega) (by omega))
 have hD:=fun W'=>Lib.hid (pG p0 p1 p2 (q1*r2-q2*r1) (q2*r0-q0*r2) (q0*r1-q1*r0) W' (by omega) (by omega) (by omega) b0 b1 b2)
 simp only at He
 rw[He]at hD
 clear hp hq hr b0 b1 b2 He hC2 hC3
 obtain⟨V,HV⟩:∃V,Hid ((((w.alloc (.cells #[.int .i64 p0, .int .i64 p1, .int .i64 p2, .int .i64 pd] 69)).alloc (.cells #[.int .i64 q0, .int .i64 q1, .int .i64 q2, .int .i64 qd] 69)).alloc (.cells #[.int .i64 r0, .int .i64 r1, .int .i64 r2, .int .i64 rd] 69)).alloc (.cells #[.int .i64 0, .int .i64 0, .int .i64 0, .int .i64 0] 143)=V):=⟨_,Lib.hid rfl⟩
 have hV:Below w.heap.size w V:=by rw[←HV.out];exact bel
 have BP:Hid (V.heap[w.heap.size]? =some (.cells #[.int .i64 p0, .int .i64 p1, .int .i64 p2, .int .i64 pd] 69 (0,0))):=Lib.hid (by rw[←HV.out];exact(aB (by simp<;>omega)).trans ((aB (by simp<;>omega)).trans ((aB (by simp)).trans (ai rfl))))
 have BQ:Hid (V.heap[w.heap.size+1]? =some (.cells #[.int .i64 q0, .int .i64 q1, .int .i64 q2, .int .i64 qd] 69 (0,0))):=Lib.hid (by rw[←HV.out];exact(aB (by simp<;>omega)).trans ((aB (by simp)).trans (ai (by simp))))
 have BR:Hid (V.heap[w.heap.size+1+1]? =some (.cells #[.int .i64 r0, .int .i64 r1, .int .i64 r2, .int .i64 rd] 69 (0,0))):=Lib.hid (by rw[←HV.out];exact(aB (by simp)).trans (ai (by simp)))
 have BO:Hid (V.heap[w.heap.size+1+1+1]? =some (.cells #[.int .i64 0, .int .i64 0, .int .i64 0, .int .i64 0] 143 (0,0))):=Lib.hid (by rw[←HV.out];exact ai (by simp))
 go_enter Tryz.func150,Tryz.ntmps150
 go_wp2
 rw[HV.out]
 clear HV
 have xp0:=(ag BP.out 0).trans rfl
 have xp1:=(ag BP.out 1).trans rfl
 have xp2:=(ag BP.out 2).trans rfl
 have xp3:=(ag BP.out 3).trans rfl
 simp only[List.getElem?_toArray,List.getElem?_cons_zero,List.getElem?_cons_succ]at xp0 xp1 xp2 xp3
 have xpz:=ah BP.out
 have xpf:=aC BP.out
 have xq0:=(ag BQ.out 0).trans rfl
 have xq1:=(ag BQ.out 1).trans rfl
 have xq2:=(ag BQ.out 2).trans rfl
 have xq3:=(ag BQ.out 3).trans rfl
 simp only[List.getElem?_toArray,List.getElem?_cons_zero,List.getElem?_cons_succ]at xq0 xq1 xq2 xq3
 have xqz:=ah BQ.out
 have xqf:=aC BQ.out
 have xr0:=(ag BR.out 0).trans rfl
 have xr1:=(ag BR.out 1).trans rfl
 have xr2:=(ag BR.out 2).trans rfl
 have xr3:=(ag BR.out 3).trans rfl
 simp only[List.getElem?_toArray,List.getElem?_cons_zero,List.getElem?_cons_succ]at xr0 xr1 xr2 xr3
 have xrz:=ah BR.out
 have xrf:=aC BR.out
 refine fk [0,1,2,3,4,5,6,7,8] 9 [10,11] (pick [IsV (V4 p0 p1 p2 pd),IsV (V3 p0 p1 p2),IsV (V4 q0 q1 q2 qd),IsV (V3 q0 q1 q2),IsV (V4 r0 r1 r2 rd),IsV (V3 r0 r1 r2),da V.heap.size 22 #[.int .i64 0, .int .i64 0, .int .i64 0],da V.heap.size 22 #[.int .i64 0, .int .i64 0, .int .i64 0],da V.heap.size 22 #[.int .i64 0, .int .i64 0, .int .i64 0]]) (tA [6,7,8]) (xG [6,7,8]) (kq (by simp only[List.mem_cons,List.not_mem_nil,or_false,forall_eq_or_imp,forall_eq];exact⟨jG,jG,jG⟩)) (by kernel_rfl) (by kernel_rfl) (Stabs.pick (by repeat(first|exact Stabs.nil|refine Stabs.cons (by first|exact dj _|exact ar _ _ _) ?_))) ?_
 try go_frame
 refine fW rfl rfl (by simp) (fun w' hb' hR K hK=> ?_) (fun o0=> ?_)
 ·clear hR
  have y0:=ab hb' xp0
  have y1:=ab hb' xp1
  have y2:=ab hb' xp2
  have y3:=ab hb' xp3
  have yz:=Nat.lt_of_lt_of_le xpz hb'.size
  go_simp
  exact hK _ _ brf rfl
 try go_frame
 refine fW rfl rfl (by simp) (fun w' hb' hR K hK=> ?_) (fun o1=> ?_)
 ·obtain rfl:o0=V4 p0 p1 p2 pd:=hR 0 (by kernel_rfl)
  clear hR
  go_simp
  refine(eb p0 p1 p2 pd _).mono ?_
  rintro e w1 ⟨rfl,hb1⟩
  exact hK _ _ hb1 rfl
 try go_frame
 refine fW rfl rfl (by simp) (fun w' hb' hR K hK=> ?_) (fun o2=> ?_)
 ·clear hR
  have y0:=ab hb' xq0
  have y1:=ab hb' xq1
  have y2:=ab hb' xq2
  have y3:=ab hb' xq3
  have yz:=Nat.lt_of_lt_of_le xqz hb'.size
  go_simp
  exact hK _ _ brf rfl
 try go_frame
 refine fW rfl rfl (by simp) (fun w' hb' hR K hK=> ?_) (fun o3=> ?_)
 ·obtain rfl:o2=V4 q0 q1 q2 qd:=hR 2 (by kernel_rfl)
  clear hR
  go_simp
  refine(eb q0 q1 q2 qd _).mono ?_
  rintro e w1 ⟨rfl,hb1⟩
  exact hK _ _ hb1 rfl
 try go_frame
 refine fW rfl rfl (by simp) (fun w' hb' hR K hK=> ?_) (fun o4=> ?_)
 ·clear hR
  have y0:=ab hb' xr0
  have y1:=ab hb' xr1
  have y2:=ab hb' xr2
  have y3:=ab hb' xr3
  have yz:=Nat.lt_of_lt_of_le xrz hb'.size
  go_simp
  exact hK _ _ brf rfl
 try go_frame
 refine fW rfl rfl (by simp) (fun w' hb' hR K hK=> ?_) (fun o5=> ?_)
 ·obtain rfl:o4=V4 r0 r1 r2 rd:=hR 4 (by kernel_rfl)
  clear hR
  go_simp
  refine(eb r0 r1 r2 rd _).mono ?_
  rintro e w1 ⟨rfl,hb1⟩
  exact hK _ _ hb1 rfl
 try go_frame
 refine wgf rfl rfl (by simp) (fun w' hb' hR K hK=> ?_) (fun o6=> ?_)
 ·clear hR
  have zz:=hb'.size
  go_simp
  exact hK _ _ bel ⟨_,rfl,zz,ai rfl⟩ (fun _=>rfl)
 try go_frame
 refine wgf rfl rfl (by simp) (fun w' hb' hR K hK=> ?_) (fun o7=> ?_)
 ·clear hR
  have zz:=hb'.size
  go_simp
  exact hK _ _ bel ⟨_,rfl,zz,ai rfl⟩ (fun _=>rfl)
 try go_frame
 refine wgf rfl rfl (by simp) (fun w' hb' hR K hK=> ?_) (fun o8=> ?_)
 ·clear hR
  have zz:=hb'.size
  go_simp
  exact hK _ _ bel ⟨_,rfl,zz,ai rfl⟩ (fun _=>rfl)
 try go_frame
 refine my (fun w' hb' hR hS=> ?_)
 obtain rfl:o1=V3 p0 p1 p2:=hR 1 (by simp)
 obtain rfl:o3=V3 q0 q1 q2:=hR 3 (by simp)
 obtain rfl:o5=V3 r0 r1 r2:=hR 5 (by simp)
 obtain⟨ga,rfl,hga,hA⟩:da V.heap.size 22 #[.int .i64 0, .int .i64 0, .int .i64 0] o6 w':=hR 6 (by simp)
 obtain⟨gb,rfl,hgb,hB⟩:da V.heap.size 22 #[.int .i64 0, .int .i64 0, .int .i64 0] o7 w':=hR 7 (by simp)
 obtain⟨gc,rfl,hgc,hC'⟩:da V.heap.size 22 #[.int .i64 0, .int .i64 0, .int .i64 0] o8 w':=hR 8 (by simp)
 have nab:ga≠gb:=fun e=>hS 6 (by simp) 7 (by simp) (by decide) (by decide) (by decide) (by rw[e];rfl)
 have nac:ga≠gc:=fun e=>hS 6 (by simp) 8 (by simp) (by decide) (by decide) (by decide) (by rw[e];rfl)
 have nbc:gb≠gc:=fun e=>hS 7 (by simp) 8 (by simp) (by decide) (by decide) (by decide) (by rw[e];rfl)
 have HA:=Lib.hid hA
 have HB:=Lib.hid hB
 have HC:=Lib.hid hC'
 clear hR hS hA hB hC' xp0 xp1 xp2 xp3 xpz xpf xq0 xq1 xq2 xq3 xqz xqf xr0 xr1 xr2 xr3 xrz xrf
 obtain⟨a0,a1,a2,af,az⟩:=dQ HA.out
 obtain⟨b0',b1',b2',bf,bz⟩:=dQ HB.out
 obtain⟨c0,c1,c2,cf,cz⟩:=dQ HC.out
 obtain⟨X,HX⟩:∃X,Hid (jd (jd (jd w' ga (.int .i64 p0) (.int .i64 p1) (.int .i64 p2)) gb (.int .i64 q0) (.int .i64 q1) (.int .i64 q2)) gc (.int .i64 r0) (.int .i64 r1) (.int .i64 r2)=X):=⟨_,Lib.hid rfl⟩
 have zV:=ah BO.out
 have hVX:Below V.heap.size V X:=by
  rw[←HX.out]
  exact dt (dt (dt hb' hga _ _ _) hgb _ _ _) hgc _ _ _
 have HPB:Hid (PB w.heap.size ga gb gc p0 p1 p2 pd q0 q1 q2 qd r0 r1 r2 rd X):=Lib.hid (by
  refine⟨(hVX.block _ (ah BP.out)).trans BP.out,(hVX.block _ (ah BQ.out)).trans BQ.out,(hVX.block _ (ah BR.out)).trans BR.out,(hVX.block _ (ah BO.out)).trans BO.out, ?_, ?_, ?_⟩
  ·rw[←HX.out]
   exact(cE nac _ _ _).trans ((cE nab _ _ _).trans (eh HA.out _ _ _))
  ·rw[←HX.out]
   exact(cE nbc _ _ _).trans (eh ((cE nab.symm _ _ _).trans HB.out) _ _ _)
  ·rw[←HX.out]
   exact eh ((cE nbc.symm _ _ _).trans ((cE nac.symm _ _ _).trans HC.out)) _ _ _)
 have eX:((((((((w'.setCell ⟨ga,0,none⟩ (.int .i64 p0)).setCell ⟨ga,1,none⟩ (.int .i64 p1)).setCell ⟨ga,2,none⟩ (.int .i64 p2)).setCell ⟨gb,0,none⟩ (.int .i64 q0)).setCell ⟨gb,1,none⟩ (.int .i64 q1)).setCell ⟨gb,2,none⟩ (.int .i64 q2)).setCell ⟨gc,0,none⟩ (.int .i64 r0)).setCell ⟨gc,1,none⟩ (.int .i64 r1)).setCell ⟨gc,2,none⟩ (.int .i64 r2)=X:=HX.out
 simp only[oas]
 go_wp2
 refine NoPanic.normal ?_
 try rw[eX]
 clear eX HX HA HB HC a0 a1 a2 af az b0' b1' b2' bf bz c0 c1 c2 cf cz BP BQ BR BO nab nac nbc hb'
 obtain⟨a0,a1,a2,_,az⟩:=dQ HPB.out.A
 obtain⟨b0',b1',b2',_,bz⟩:=dQ HPB.out.B
 obtain⟨c0,c1,c2,_,cz⟩:=dQ HPB.out.C
 go_wp2
 refine wqb ?_
 repeat(first|go_big_quiet_step ((first|(go_at_call 170;exact aE ((hC _).out))|(go_at_call 110;exact aE ((hD _).out))))|quiet_step ((first|(go_at_call 170;exact aE ((hC _).out))|(go_at_call 110;exact aE ((hD _).out)))))
 refine wqn fun u=> ?_
 have HU:=Lib.hid (HPB.out.below u.below)
 have hVu:Below V.heap.size V u.val:=ae hVX u.below
 clear HPB hVX a0 a1 a2 az b0' b1' b2' bz c0 c1 c2 cz
 generalize u.val=X1 at*
 clear u
 have BO3:=Lib.hid HU.out.O
 have hw:Below w.heap.size w X1:=ae hV hVu
 have o0:=(ag BO3.out 0).trans rfl
 have o1:=(ag BO3.out 1).trans rfl
 have o2:=(ag BO3.out 2).trans rfl
 have o3:=(ag BO3.out 3).trans rfl
 simp only[List.getElem?_toArray,List.getElem?_cons_zero,List.getElem?_cons_succ]at o0 o1 o2 o3
 have oz:=ah BO3.out
 have of:=aC BO3.out
 go_wp2
 refine bodyPost_ret (v:= .tuple #[v4 (0,0,0,0), .bool false]) (by simp[results,Tryz.results150,go_sem,o0,o1,o2,o3,oz]) rfl ⟨rfl, ?_⟩
 exact Below.setCell (Below.setCell (Below.setCell (Below.setCell hw (by dsimp only;omega) _) (by dsimp only;omega) _) (by dsimp only;omega) _) (by dsimp only;omega) _
structure PX (g N gx gy gz:Nat) (p0 p1 p2 pd q0 q1 q2 qd r0 r1 r2 rd n0 n1 n2 n3 n4 n5 n6 n7 n8:Int) (X:World):Prop where
 P:X.heap[N]? =some (.cells #[.int .i64 p0, .int .i64 p1, .int .i64 p2, .int .i64 pd] 69 (0,0))
 Q:X.heap[N+1]? =some (.cells #[.int .i64 q0, .int .i64 q1, .int .i64 q2, .int .i64 qd] 69 (0,0))
 R:X.heap[N+1+1]? =some (.cells #[.int .i64 r0, .int .i64 r1, .int .i64 r2, .int .i64 rd] 69 (0,0))
 O:X.heap[N+1+1+1]? =some (.cells #[.int .i64 0, .int .i64 0, .int .i64 0, .int .i64 0] 143 (0,0))
 A:X.heap[gx]? =some (.cells #[.int .i64 n0, .int .i64 n1, .int .i64 n2] 22 (0,0))
 B:X.heap[gy]? =some (.cells #[.int .i64 n3, .int .i64 n4, .int .i64 n5] 22 (0,0))
 C:X.heap[gz]? =some (.cells #[.int .i64 n6, .int .i64 n7, .int .i64 n8] 22 (0,0))
 lt:N+1+1+1<g∧gx<g∧gy<g∧gz<g
theorem PX.below {g N gx gy gz:Nat} {p0 p1 p2 pd q0 q1 q2 qd r0 r1 r2 rd n0 n1 n2 n3 n4 n5 n6 n7 n8:Int} {X Y:World} (h:PX g N gx gy gz p0 p1 p2 pd q0 q1 q2 qd r0 r1 r2 rd n0 n1 n2 n3 n4 n5 n6 n7 n8 X) (hb:Below g X Y):PX g N gx gy gz p0 p1 p2 pd q0 q1 q2 qd r0 r1 r2 rd n0 n1 n2 n3 n4 n5 n6 n7 n8 Y:=by
 have:=h.lt
 exact⟨(hb.block _ (by omega)).trans h.P,(hb.block _ (by omega)).trans h.Q,(hb.block _ (by omega)).trans h.R,(hb.block _ (by omega)).trans h.O,(hb.block _ (by omega)).trans h.A,(hb.block _ (by omega)).trans h.B,(hb.block _ (by omega)).trans h.C,h.lt⟩
theorem pL (p q r:Q4) (w:World) (hp:bI p) (hq:bI q) (hr:bI r) (h0:bN p q r≠0):
  Calls Tryz.prog 150 #[v4 p,v4 q,v4 r] w (Ret w (.tuple #[v4 (dv p q r (bN p q r)), .bool true])):=by
 have He:=vA p q r
 have hdb:=lV p q r hp hq hr
 generalize bN p q r=den at*
 obtain⟨p0,p1,p2,pd⟩:=p
 obtain⟨q0,q1,q2,qd⟩:=q
 obtain⟨r0,r1,r2,rd⟩:=r
 simp only[bI]at hp hq hr
 simp only at He
 have Hm:Hid (dv (p0,p1,p2,pd) (q0,q1,q2,qd) (r0,r1,r2,rd) den=eu (pd*(q1*r2-q2*r1)+qd*(r1*p2-r2*p1)+rd*(p1*q2-p2*q1)) (pd*(q2*r0-q0*r2)+qd*(r2*p0-r0*p2)+rd*(p2*q0-p0*q2)) (pd*(q0*r1-q1*r0)+qd*(r0*p1-r1*p0)+rd*(p0*q1-p1*q0)) den):=Lib.hid rfl
 have b0:=aL hq.2.1 hq.2.2.1 hr.2.1 hr.2.2.1
 have b1:=aL hq.2.2.1 hq.1 hr.2.2.1 hr.1
 have b2:=aL hq.1 hq.2.1 hr.1 hr.2.1
 have b3:=aL hr.2.1 hr.2.2.1 hp.2.1 hp.2.2.1
 have b4:=aL hr.2.2.1 hr.1 hp.2.2.1 hp.1
 have b5:=aL hr.1 hr.2.1 hp.1 hp.2.1
 have b6:=aL hp.2.1 hp.2.2.1 hq.2.1 hq.2.2.1
 have b7:=aL hp.2.2.1 hp.1 hq.2.2.1 hq.1
 have b8:=aL hp.1 hp.2.1 hq.1 hq.2.1
 have hC:=fun W'=>Lib.hid (eG q0 q1 q2 r0 r1 r2 W' (by omega) (by omega) (by omega) (by omega) (by omega) (by omega))
 have hC2:=fun W'=>Lib.hid (eG r0 r1 r2 p0 p1 p2 W' (by omega) (by omega) (by omega) (by omega) (by omega) (by omega))
 have hC3:=fun W'=>Lib.hid (eG p0 p1 p2 q0 q1 q2 W' (by omega) (by omega) (by omega) (by omega) (by omega) (by omega))
 have hD:=fun W'=>Lib.hid (pG p0 p1 p2 (q1*r2-q2*r1) (q2*r0-q0*r2) (q0*r1-q1*r0) W' (by omega) (by omega) (by omega) b0 b1 b2)
 rw[He]at hD
 clear He
 generalize dv (p0,p1,p2,pd) (q0,q1,q2,qd) (r0,r1,r2,rd) den=res at*
 generalize q1*r2-q2*r1=n0 at*
 generalize q2*r0-q0*r2=n1 at*
 generalize q0*r1-q1*r0=n2 at*
 generalize r1*p2-r2*p1=n3 at*
 generalize r2*p0-r0*p2=n4 at*
 generalize r0*p1-r1*p0=n5 at*
 generalize p1*q2-p2*q1=n6 at*
 generalize p2*q0-p0*q2=n7 at*
 generalize p0*q1-p1*q0=n8 at*
 have D0: -1280000000≤pd*n0∧pd*n0≤1280000000:=aJ hp.2.2.2.1 hp.2.2.2.2 b0.1 b0.2
 have D1: -1280000000≤pd*n1∧pd*n1≤1280000000:=aJ hp.2.2.2.1 hp.2.2.2.2 b1.1 b1.2
 have D2: -1280000000≤pd*n2∧pd*n2≤1280000000:=aJ hp.2.2.2.1 hp.2.2.2.2 b2.1 b2.2
 have D3: -1280000000≤qd*n3∧qd*n3≤1280000000:=aJ hq.2.2.2.1 hq.2.2.2.2 b3.1 b3.2
 have D4: -1280000000≤qd*n4∧qd*n4≤1280000000:=aJ hq.2.2.2.1 hq.2.2.2.2 b4.1 b4.2
 have D5: -1280000000≤qd*n5∧qd*n5≤1280000000:=aJ hq.2.2.2.1 hq.2.2.2.2 b5.1 b5.2
 have D6: -1280000000≤rd*n6∧rd*n6≤1280000000:=aJ hr.2.2.2.1 hr.2.2.2.2 b6.1 b6.2
 have D7: -1280000000≤rd*n7∧rd*n7≤1280000000:=aJ hr.2.2.2.1 hr.2.2.2.2 b7.1 b7.2
 have D8: -1280000000≤rd*n8∧rd*n8≤1280000000:=aJ hr.2.2.2.1 hr.2.2.2.2 b8.1 b8.2
 clear b0 b1 b2 b3 b4 b5 b6 b7 b8 hp hq hr
 have hne:(den==0)=false:=by simpa using h0
 obtain⟨V,HV⟩:∃V,Hid ((((w.alloc (.cells #[.int .i64 p0, .int .i64 p1, .int .i64 p2, .int .i64 pd] 69)).alloc (.cells #[.int .i64 q0, .int .i64 q1, .int .i64 q2, .int .i64 qd] 69)).alloc (.cells #[.int .i64 r0, .int .i64 r1, .int .i64 r2, .int .i64 rd] 69)).alloc (.cells #[.int .i64 0, .int .i64 0, .int .i64 0, .int .i64 0] 143)=V):=⟨_,Lib.hid rfl⟩
 have hV:Below w.heap.size w V:=by rw[←HV.out];exact bel
 have BP:Hid (V.heap[w.heap.size]? =some (.cells #[.int .i64 p0, .int .i64 p1, .int .i64 p2, .int .i64 pd] 69 (0,0))):=Lib.hid (by rw[←HV.out];exact(aB (by simp<;>omega)).trans ((aB (by simp<;>omega)).trans ((aB (by simp)).trans (ai rfl))))
 have BQ:Hid (V.heap[w.heap.size+1]? =some (.cells #[.int .i64 q0, .int .i64 q1, .int .i64 q2, .int .i64 qd] 69 (0,0))):=Lib.hid (by rw[←HV.out];exact(aB (by simp<;>omega)).trans ((aB (by simp)).trans (ai (by simp))))
 have BR:Hid (V.heap[w.heap.size+1+1]? =some (.cells #[.int .i64 r0, .int .i64 r1, .int .i64 r2, .int .i64 rd] 69 (0,0))):=Lib.hid (by rw[←HV.out];exact(aB (by simp)).trans (ai (by simp)))
 have BO:Hid (V.heap[w.heap.size+1+1+1]? =some (.cells #[.int .i64 0, .int .i64 0, .int .i64 0, .int .i64 0] 143 (0,0))):=Lib.hid (by rw[←HV.out];exact ai (by simp))
 go_enter Tryz.func150,Tryz.ntmps150
 go_wp2
 rw[HV.out]
 clear HV
 have xp0:=(ag BP.out 0).trans rfl
 have xp1:=(ag BP.out 1).trans rfl
 have xp2:=(ag BP.out 2).trans rfl
 have xp3:=(ag BP.out 3).trans rfl
 simp only[List.getElem?_toArray,List.getElem?_cons_zero,List.getElem?_cons_succ]at xp0 xp1 xp2 xp3
 have xpz:=ah BP.out
 have xpf:=aC BP.out
 have xq0:=(ag BQ.out 0).trans rfl
 have xq1:=(ag BQ.out 1).trans rfl
 have xq2:=(ag BQ.out 2).trans rfl
 have xq3:=(ag BQ.out 3).trans rfl
 simp only[List.getElem?_toArray,List.getElem?_cons_zero,List.getElem?_cons_succ]at xq0 xq1 xq2 xq3
 have xqz:=ah BQ.out
 have xqf:=aC BQ.out
 have xr0:=(ag BR.out 0).trans rfl
 have xr1:=(ag BR.out 1).trans rfl
 have xr2:=(ag BR.out 2).trans rfl
 have xr3:=(ag BR.out 3).trans rfl
 simp only[List.getElem?_toArray,List.getElem?_cons_zero,List.getElem?_cons_succ]at xr0 xr1 xr2 xr3
 have xrz:=ah BR.out
 have xrf:=aC BR.out
 refine fk [0,1,2,3,4,5,6,7,8] 9 [10,11] (pick [IsV (V4 p0 p1 p2 pd),IsV (V3 p0 p1 p2),IsV (V4 q0 q1 q2 qd),IsV (V3 q0 q1 q2),IsV (V4 r0 r1 r2 rd),IsV (V3 r0 r1 r2),da V.heap.size 22 #[.int .i64 0, .int .i64 0, .int .i64 0],da V.heap.size 22 #[.int .i64 0, .int .i64 0, .int .i64 0],da V.heap.size 22 #[.int .i64 0, .int .i64 0, .int .i64 0]]) (tA [6,7,8]) (xG [6,7,8]) (kq (by simp only[List.mem_cons,List.not_mem_nil,or_false,forall_eq_or_imp,forall_eq];exact⟨jG,jG,jG⟩)) (by kernel_rfl) (by kernel_rfl) (Stabs.pick (by repeat(first|exact Stabs.nil|refine Stabs.cons (by first|exact dj _|exact ar _ _ _) ?_))) ?_
 try go_frame
 refine fW rfl rfl (by simp) (fun w' hb' hR K hK=> ?_) (fun o0=> ?_)
 ·clear hR
  have y0:=ab hb' xp0
  have y1:=ab hb' xp1
  have y2:=ab hb' xp2
  have y3:=ab hb' xp3
  have yz:=Nat.lt_of_lt_of_le xpz hb'.size
  go_simp
  exact hK _ _ brf rfl
 try go_frame
 refine fW rfl rfl (by simp) (fun w' hb' hR K hK=> ?_) (fun o1=> ?_)
 ·obtain rfl:o0=V4 p0 p1 p2 pd:=hR 0 (by kernel_rfl)
  clear hR
  go_simp
  refine(eb p0 p1 p2 pd _).mono ?_
  rintro e w1 ⟨rfl,hb1⟩
  exact hK _ _ hb1 rfl
 try go_frame
 refine fW rfl rfl (by simp) (fun w' hb' hR K hK=> ?_) (fun o2=> ?_)
 ·clear hR
  have y0:=ab hb' xq0
  have y1:=ab hb' xq1
  have y2:=ab hb' xq2
  have y3:=ab hb' xq3
  have yz:=Nat.lt_of_lt_of_le xqz hb'.size
  go_simp
  exact hK _ _ brf rfl
 try go_frame
 refine fW rfl rfl (by simp) (fun w' hb' hR K hK=> ?_) (fun o3=> ?_)
 ·obtain rfl:o2=V4 q0 q1 q2 qd:=hR 2 (by kernel_rfl)
  clear hR
  go_simp
  refine(eb q0 q1 q2 qd _).mono ?_
  rintro e w1 ⟨rfl,hb1⟩
  exact hK _ _ hb1 rfl
 try go_frame
 refine fW rfl rfl (by simp) (fun w' hb' hR K hK=> ?_) (fun o4=> ?_)
 ·clear hR
  have y0:=ab hb' xr0
  have y1:=ab hb' xr1
  have y2:=ab hb' xr2
  have y3:=ab hb' xr3
  have yz:=Nat.lt_of_lt_of_le xrz hb'.size
  go_simp
  exact hK _ _ brf rfl
 try go_frame
 refine fW rfl rfl (by simp) (fun w' hb' hR K hK=> ?_) (fun o5=> ?_)
 ·obtain rfl:o4=V4 r0 r1 r2 rd:=hR 4 (by kernel_rfl)
  clear hR
  go_simp
  refine(eb r0 r1 r2 rd _).mono ?_
  rintro e w1 ⟨rfl,hb1⟩
  exact hK _ _ hb1 rfl
 try go_frame
 refine wgf rfl rfl (by simp) (fun w' hb' hR K hK=> ?_) (fun o6=> ?_)
 ·clear hR
  have zz:=hb'.size
  go_simp
  exact hK _ _ bel ⟨_,rfl,zz,ai rfl⟩ (fun _=>rfl)
 try go_frame
 refine wgf rfl rfl (by simp) (fun w' hb' hR K hK=> ?_) (fun o7=> ?_)
 ·clear hR
  have zz:=hb'.size
  go_simp
  exact hK _ _ bel ⟨_,rfl,zz,ai rfl⟩ (fun _=>rfl)
 try go_frame
 refine wgf rfl rfl (by simp) (fun w' hb' hR K hK=> ?_) (fun o8=> ?_)
 ·clear hR
  have zz:=hb'.size
  go_simp
  exact hK _ _ bel ⟨_,rfl,zz,ai rfl⟩ (fun _=>rfl)
 try go_frame
 refine my (fun w' hb' hR hS=> ?_)
 obtain rfl:o1=V3 p0 p1 p2:=hR 1 (by simp)
 obtain rfl:o3=V3 q0 q1 q2:=hR 3 (by simp)
 obtain rfl:o5=V3 r0 r1 r2:=hR 5 (by simp)
 obtain⟨ga,rfl,hga,hA⟩:da V.heap.size 22 #[.int .i64 0, .int .i64 0, .int .i64 0] o6 w':=hR 6 (by simp)
 obtain⟨gb,rfl,hgb,hB⟩:da V.heap.size 22 #[.int .i64 0, .int .i64 0, .int .i64 0] o7 w':=hR 7 (by simp)
 obtain⟨gc,rfl,hgc,hC'⟩:da V.heap.size 22 #[.int .i64 0, .int .i64 0, .int .i64 0] o8 w':=hR 8 (by simp)
 have nab:ga≠gb:=fun e=>hS 6 (by simp) 7 (by simp) (by decide) (by decide) (by decide) (by rw[e];rfl)
 have nac:ga≠gc:=fun e=>hS 6 (by simp) 8 (by simp) (by decide) (by decide) (by decide) (by rw[e];rfl)
 have nbc:gb≠gc:=fun e=>hS 7 (by simp) 8 (by simp) (by decide) (by decide) (by decide) (by rw[e];rfl)
 have HA:=Lib.hid hA
 have HB:=Lib.hid hB
 have HC:=Lib.hid hC'
 clear hR hS hA hB hC' xp0 xp1 xp2 xp3 xpz xpf xq0 xq1 xq2 xq3 xqz xqf xr0 xr1 xr2 xr3 xrz xrf
 obtain⟨a0,a1,a2,af,az⟩:=dQ HA.out
 obtain⟨b0',b1',b2',bf,bz⟩:=dQ HB.out
 obtain⟨c0,c1,c2,cf,cz⟩:=dQ HC.out
 obtain⟨X,HX⟩:∃X,Hid (jd (jd (jd w' ga (.int .i64 p0) (.int .i64 p1) (.int .i64 p2)) gb (.int .i64 q0) (.int .i64 q1) (.int .i64 q2)) gc (.int .i64 r0) (.int .i64 r1) (.int .i64 r2)=X):=⟨_,Lib.hid rfl⟩
 have zV:=ah BO.out
 have hVX:Below V.heap.size V X:=by
  rw[←HX.out]
  exact dt (dt (dt hb' hga _ _ _) hgb _ _ _) hgc _ _ _
 have HPB:Hid (PB w.heap.size ga gb gc p0 p1 p2 pd q0 q1 q2 qd r0 r1 r2 rd X):=Lib.hid (by
  refine⟨(hVX.block _ (ah BP.out)).trans BP.out,(hVX.block _ (ah BQ.out)).trans BQ.out,(hVX.block _ (ah BR.out)).trans BR.out,(hVX.block _ (ah BO.out)).trans BO.out, ?_, ?_, ?_⟩
  ·rw[←HX.out]
   exact(cE nac _ _ _).trans ((cE nab _ _ _).trans (eh HA.out _ _ _))
  ·rw[←HX.out]
   exact(cE nbc _ _ _).trans (eh ((cE nab.symm _ _ _).trans HB.out) _ _ _)
  ·rw[←HX.out]
   exact eh ((cE nbc.symm _ _ _).trans ((cE nac.symm _ _ _).trans HC.out)) _ _ _)
 have eX:((((((((w'.setCell ⟨ga,0,none⟩ (.int .i64 p0)).setCell ⟨ga,1,none⟩ (.int .i64 p1)).setCell ⟨ga,2,none⟩ (.int .i64 p2)).setCell ⟨gb,0,none⟩ (.int .i64 q0)).setCell ⟨gb,1,none⟩ (.int .i64 q1)).setCell ⟨gb,2,none⟩ (.int .i64 q2)).setCell ⟨gc,0,none⟩ (.int .i64 r0)).setCell ⟨gc,1,none⟩ (.int .i64 r1)).setCell ⟨gc,2,none⟩ (.int .i64 r2)=X:=HX.out
 simp only[oas]
 go_wp2
 refine NoPanic.normal ?_
 try rw[eX]
 clear eX HX HA HB HC a0 a1 a2 af az b0' b1' b2' bf bz c0 c1 c2 cf cz BP BQ BR BO nab nac nbc hb'
 obtain⟨a0,a1,a2,_,az⟩:=dQ HPB.out.A
 obtain⟨b0',b1',b2',_,bz⟩:=dQ HPB.out.B
 obtain⟨c0,c1,c2,_,cz⟩:=dQ HPB.out.C
 go_wp2
 refine wqb ?_
 repeat(first|go_big_quiet_step ((first|(go_at_call 170;exact aE ((hC _).out))|(go_at_call 110;exact aE ((hD _).out))))|quiet_step ((first|(go_at_call 170;exact aE ((hC _).out))|(go_at_call 110;exact aE ((hD _).out)))))
 refine wqn fun u=> ?_
 have HU:=Lib.hid (HPB.out.below u.below)
 have hVu:Below V.heap.size V u.val:=ae hVX u.below
 clear HPB hVX a0 a1 a2 az b0' b1' b2' bz c0 c1 c2 cz
 generalize u.val=X1 at*
 clear u
 obtain⟨a0,a1,a2,_,az⟩:=dQ HU.out.A
 obtain⟨b0',b1',b2',_,bz⟩:=dQ HU.out.B
 obtain⟨c0,c1,c2,_,cz⟩:=dQ HU.out.C
 go_wp2
 refine fk [0,1,2,3,4,5,6,7,8,9,10,11] 12 [13,14] (pick [IsV (V3 q0 q1 q2),IsV (V3 r0 r1 r2),IsV (V3 n0 n1 n2),IsV (V3 r0 r1 r2),IsV (V3 p0 p1 p2),IsV (V3 n3 n4 n5),IsV (V3 p0 p1 p2),IsV (V3 q0 q1 q2),IsV (V3 n6 n7 n8),da X1.heap.size 22 #[.int .i64 0, .int .i64 0, .int .i64 0],da X1.heap.size 22 #[.int .i64 0, .int .i64 0, .int .i64 0],da X1.heap.size 22 #[.int .i64 0, .int .i64 0, .int .i64 0]]) (tA [9,10,11]) (xG [9,10,11]) (kq (by simp only[List.mem_cons,List.not_mem_nil,or_false,forall_eq_or_imp,forall_eq];exact⟨jG,jG,jG⟩)) (by kernel_rfl) (by kernel_rfl) (Stabs.pick (by repeat(first|exact Stabs.nil|refine Stabs.cons (by first|exact dj _|exact ar _ _ _) ?_))) ?_
 try go_frame
 refine fW rfl rfl (by simp) (fun w' hb' hR K hK=> ?_) (fun o0=> ?_)
 ·clear hR
  have y0:=ab hb' b0'
  have y1:=ab hb' b1'
  have y2:=ab hb' b2'
  have yz:=Nat.lt_of_lt_of_le bz hb'.size
  go_simp
  exact hK _ _ brf rfl
 try go_frame
 refine fW rfl rfl (by simp) (fun w' hb' hR K hK=> ?_) (fun o1=> ?_)
 ·clear hR
  have y0:=ab hb' c0
  have y1:=ab hb' c1
  have y2:=ab hb' c2
  have yz:=Nat.lt_of_lt_of_le cz hb'.size
  go_simp
  exact hK _ _ brf rfl
 try go_frame
 refine fW rfl rfl (by simp) (fun w' hb' hR K hK=> ?_) (fun o2=> ?_)
 ·obtain rfl:o0=V3 q0 q1 q2:=hR 0 (by kernel_rfl)
  obtain rfl:o1=V3 r0 r1 r2:=hR 1 (by kernel_rfl)
  clear hR
  go_simp
  refine((hC _).out).mono ?_
  rintro e w1 ⟨rfl,hb1⟩
  exact hK _ _ hb1 rfl
 try go_frame
 refine fW rfl rfl (by simp) (fun w' hb' hR K hK=> ?_) (fun o3=> ?_)
 ·clear hR
  have y0:=ab hb' c0
  have y1:=ab hb' c1
  have y2:=ab hb' c2
  have yz:=Nat.lt_of_lt_of_le cz hb'.size
  go_simp
  exact hK _ _ brf rfl
 try go_frame
 refine fW rfl rfl (by simp) (fun w' hb' hR K hK=> ?_) (fun o4=> ?_)
 ·clear hR
  have y0:=ab hb' a0
  have y1:=ab hb' a1
  have y2:=ab hb' a2
  have yz:=Nat.lt_of_lt_of_le az hb'.size
  go_simp
  exact hK _ _ brf rfl
 try go_frame
 refine fW rfl rfl (by simp) (fun w' hb' hR K hK=> ?_) (fun o5=> ?_)
 ·obtain rfl:o3=V3 r0 r1 r2:=hR 3 (by kernel_rfl)
  obtain rfl:o4=V3 p0 p1 p2:=hR 4 (by kernel_rfl)
  clear hR
  go_simp
  refine((hC2 _).out).mono ?_
  rintro e w1 ⟨rfl,hb1⟩
  exact hK _ _ hb1 rfl
 try go_frame
 refine fW rfl rfl (by simp) (fun w' hb' hR K hK=> ?_) (fun o6=> ?_)
 ·clear hR
  have y0:=ab hb' a0
  have y1:=ab hb' a1
  have y2:=ab hb' a2
  have yz:=Nat.lt_of_lt_of_le az hb'.size
  go_simp
  exact hK _ _ brf rfl
 try go_frame
 refine fW rfl rfl (by simp) (fun w' hb' hR K hK=> ?_) (fun o7=> ?_)
 ·clear hR
  have y0:=ab hb' b0'
  have y1:=ab hb' b1'
  have y2:=ab hb' b2'
  have yz:=Nat.lt_of_lt_of_le bz hb'.size
  go_simp
  exact hK _ _ brf rfl
 try go_frame
 refine fW rfl rfl (by simp) (fun w' hb' hR K hK=> ?_) (fun o8=> ?_)
 ·obtain rfl:o6=V3 p0 p1 p2:=hR 6 (by kernel_rfl)
  obtain rfl:o7=V3 q0 q1 q2:=hR 7 (by kernel_rfl)
  clear hR
  go_simp
  refine((hC3 _).out).mono ?_
  rintro e w1 ⟨rfl,hb1⟩
  exact hK _ _ hb1 rfl
 try go_frame
 refine wgf rfl rfl (by simp) (fun w' hb' hR K hK=> ?_) (fun o9=> ?_)
 ·clear hR
  have zz:=hb'.size
  go_simp
  exact hK _ _ bel ⟨_,rfl,zz,ai rfl⟩ (fun _=>rfl)
 try go_frame
 refine wgf rfl rfl (by simp) (fun w' hb' hR K hK=> ?_) (fun o10=> ?_)
 ·clear hR
  have zz:=hb'.size
  go_simp
  exact hK _ _ bel ⟨_,rfl,zz,ai rfl⟩ (fun _=>rfl)
 try go_frame
 refine wgf rfl rfl (by simp) (fun w' hb' hR K hK=> ?_) (fun o11=> ?_)
 ·clear hR
  have zz:=hb'.size
  go_simp
  exact hK _ _ bel ⟨_,rfl,zz,ai rfl⟩ (fun _=>rfl)
 try go_frame
 refine my (fun w' hb' hR hS=> ?_)
 obtain rfl:o2=V3 n0 n1 n2:=hR 2 (by simp)
 obtain rfl:o5=V3 n3 n4 n5:=hR 5 (by simp)
 obtain rfl:o8=V3 n6 n7 n8:=hR 8 (by simp)
 obtain⟨gx,rfl,hgx,hA⟩:da X1.heap.size 22 #[.int .i64 0, .int .i64 0, .int .i64 0] o9 w':=hR 9 (by simp)
 obtain⟨gy,rfl,hgy,hB⟩:da X1.heap.size 22 #[.int .i64 0, .int .i64 0, .int .i64 0] o10 w':=hR 10 (by simp)
 obtain⟨gz,rfl,hgz,hC'⟩:da X1.heap.size 22 #[.int .i64 0, .int .i64 0, .int .i64 0] o11 w':=hR 11 (by simp)
 have nab:gx≠gy:=fun e=>hS 9 (by simp) 10 (by simp) (by decide) (by decide) (by decide) (by rw[e];rfl)
 have nac:gx≠gz:=fun e=>hS 9 (by simp) 11 (by simp) (by decide) (by decide) (by decide) (by rw[e];rfl)
 have nbc:gy≠gz:=fun e=>hS 10 (by simp) 11 (by simp) (by decide) (by decide) (by decide) (by rw[e];rfl)
 have HA:=Lib.hid hA
 have HB:=Lib.hid hB
 have HC:=Lib.hid hC'
 clear hR hS hA hB hC' a0 a1 a2 az b0' b1' b2' bz c0 c1 c2 cz hC hC2 hC3 hD
 obtain⟨a0,a1,a2,af,az⟩:=dQ HA.out
 obtain⟨b0',b1',b2',bf,bz⟩:=dQ HB.out
 obtain⟨c0,c1,c2,cf,cz⟩:=dQ HC.out
 obtain⟨X,HX⟩:∃X,Hid (jd (jd (jd w' gx (.int .i64 n0) (.int .i64 n1) (.int .i64 n2)) gy (.int .i64 n3) (.int .i64 n4) (.int .i64 n5)) gz (.int .i64 n6) (.int .i64 n7) (.int .i64 n8)=X):=⟨_,Lib.hid rfl⟩
 have hVX:Below X1.heap.size X1 X:=by
  rw[←HX.out]
  exact dt (dt (dt hb' hgx _ _ _) hgy _ _ _) hgz _ _ _
 have hXs:X.heap.size=w'.heap.size:=by rw[←HX.out,kr,kr,kr]
 obtain⟨g,Hg⟩:∃g,Hid (X.heap.size=g):=⟨_,Lib.hid rfl⟩
 have zO:=ah HU.out.O
 have HPX:Hid (PX g w.heap.size gx gy gz p0 p1 p2 pd q0 q1 q2 qd r0 r1 r2 rd n0 n1 n2 n3 n4 n5 n6 n7 n8 X):=Lib.hid (by
  refine⟨(hVX.block _ (ah HU.out.P)).trans HU.out.P,(hVX.block _ (ah HU.out.Q)).trans HU.out.Q,(hVX.block _ (ah HU.out.R)).trans HU.out.R,(hVX.block _ (ah HU.out.O)).trans HU.out.O, ?_, ?_, ?_, ?_⟩
  ·rw[←HX.out]
   exact(cE nac _ _ _).trans ((cE nab _ _ _).trans (eh HA.out _ _ _))
  ·rw[←HX.out]
   exact(cE nbc _ _ _).trans (eh ((cE nab.symm _ _ _).trans HB.out) _ _ _)
  ·rw[←HX.out]
   exact eh ((cE nbc.symm _ _ _).trans ((cE nac.symm _ _ _).trans HC.out)) _ _ _
  ·have h1:=hVX.size
   rw[←Hg.out]
   omega)
 have eX:((((((((w'.setCell ⟨gx,0,none⟩ (.int .i64 n0)).setCell ⟨gx,1,none⟩ (.int .i64 n1)).setCell ⟨gx,2,none⟩ (.int .i64 n2)).setCell ⟨gy,0,none⟩ (.int .i64 n3)).setCell ⟨gy,1,none⟩ (.int .i64 n4)).setCell ⟨gy,2,none⟩ (.int .i64 n5)).setCell ⟨gz,0,none⟩ (.int .i64 n6)).setCell ⟨gz,1,none⟩ (.int .i64 n7)).setCell ⟨gz,2,none⟩ (.int .i64 n8)=X:=HX.out
 simp only[oas]
 go_wp2
 refine NoPanic.normal ?_
 try rw[eX]
 have hwX:Below w.heap.size w X:=ae hV (ae hVu hVX)
 clear eX HX HA HB HC a0 a1 a2 af az b0' b1' b2' bf bz c0 c1 c2 cf cz nab nac nbc hb' hVX hVu hV HU hXs zO hgx hgy hgz zV hga hgb hgc
 obtain⟨Y,HY⟩:∃Y,Hid (X.alloc (.cells #[.int .i64 0, .int .i64 0, .int .i64 0] 22)=Y):=⟨_,Lib.hid rfl⟩
 have hXY:Below g X Y:=by rw[←HY.out, ←Hg.out];exact bel
 have HV0:Hid (Y.heap[g]? =some (.cells #[.int .i64 0, .int .i64 0, .int .i64 0] 22 (0,0))):=Lib.hid (by rw[←HY.out, ←Hg.out];exact ai rfl)
 have HPY:=Lib.hid (HPX.out.below hXY)
 have hwY:Below w.heap.size w Y:=ae hwX (by rw[Hg.out];exact hXY)
 go_wp2
 rw[HY.out,Hg.out]
 clear HY hXY HPX hwX Hg
 have zg:w.heap.size≤g:=by have:=HPY.out.lt;omega
 go_loopw [16] (fun x wr=>∃k:Int,0≤k∧k≤3∧x= .int .i64 k∧Below g Y wr∧Hid (wr.heap[g]? =some (.cells #[.int .i64 (if 1≤k then pd*n0+qd*n3+rd*n6 else 0), .int .i64 (if 2≤k then pd*n1+qd*n4+rd*n7 else 0), .int .i64 (if 3≤k then pd*n2+qd*n5+rd*n8 else 0)] 22 (0,0)))) (fun x _=>3-(intOf x).toNat)
 case atStart=>exact⟨0,by omega,by omega,rfl,Below.refl _ _,Lib.hid (by simpa using HV0.out)⟩
 case round=>
  clear HV0
  obtain⟨k,hk0,hk,rfl,hb,HVb⟩:=hrel
  have HX:=Lib.hid (HPY.out.below hb)
  rcases(by omega:k=0∨k=1∨k=2∨k=3)with rfl|rfl|rfl|rfl
  ·simp only[show ¬(1:Int)≤0 by decide,show ¬(2:Int)≤0 by decide,show ¬(3:Int)≤0 by decide,if_false]at HVb
   obtain⟨x0,x1,x2,_,xz⟩:=dQ HX.out.A
   obtain⟨y0,y1,y2,_,yz⟩:=dQ HX.out.B
   obtain⟨z0,z1,z2,_,zz⟩:=dQ HX.out.C
   have pP:=(ag HX.out.P 3).trans rfl
   have pQ:=(ag HX.out.Q 3).trans rfl
   have pR:=(ag HX.out.R 3).trans rfl
   simp only[List.getElem?_toArray,List.getElem?_cons_zero,List.getElem?_cons_succ]at pP pQ pR
   have zP:=ah HX.out.P
   have zQ:=ah HX.out.Q
   have zR:=ah HX.out.R
   have vz:=ah HVb.out
   have vf:=aC HVb.out
   go_wp2
   refine aQ 22 (by kernel_rfl) (by kernel_rfl) ?_
   simp only[List.take_succ_cons,List.take_zero,List.drop_succ_cons,List.drop_zero]
   repeat(first|go_big_quiet_step (fail)|quiet_step (fail))
   refine wpQuiet_nil ?_
   rintro _ ⟨u,rfl⟩
   have HV2:=Lib.hid ((u.below.block _ vz).trans HVb.out)
   have hb2:Below g Y u.val:=hb.trans (u.below.mono (by omega))
   obtain⟨vv0,vv1,vv2,vf2,vz2⟩:=dQ HV2.out
   clear vz vf
   go_wp2
   go_roundw
   case rel=>exact⟨1,by omega,by omega,by first|rfl|go_num,hb2.setCell (Nat.le_refl _) _,Lib.hid (by have:=br HV2.out 0 (.int .i64 (pd*n0+qd*n3+rd*n6));simpa using this)⟩
   case measure=>first|decide|(simp[intOf];done)|(simp[intOf];omega)
  ·simp only[show(1:Int)≤1 by decide,show ¬(2:Int)≤1 by decide,show ¬(3:Int)≤1 by decide,if_false,if_true]at HVb
   obtain⟨x0,x1,x2,_,xz⟩:=dQ HX.out.A
   obtain⟨y0,y1,y2,_,yz⟩:=dQ HX.out.B
   obtain⟨z0,z1,z2,_,zz⟩:=dQ HX.out.C
   have pP:=(ag HX.out.P 3).trans rfl
   have pQ:=(ag HX.out.Q 3).trans rfl
   have pR:=(ag HX.out.R 3).trans rfl
   simp only[List.getElem?_toArray,List.getElem?_cons_zero,List.getElem?_cons_succ]at pP pQ pR
   have zP:=ah HX.out.P
   have zQ:=ah HX.out.Q
   have zR:=ah HX.out.R
   have vz:=ah HVb.out
   have vf:=aC HVb.out
   go_wp2
   refine aQ 22 (by kernel_rfl) (by kernel_rfl) ?_
   simp only[List.take_succ_cons,List.take_zero,List.drop_succ_cons,List.drop_zero]
   repeat(first|go_big_quiet_step (fail)|quiet_step (fail))
   refine wpQuiet_nil ?_
   rintro _ ⟨u,rfl⟩
   have HV2:=Lib.hid ((u.below.block _ vz).trans HVb.out)
   have hb2:Below g Y u.val:=hb.trans (u.below.mono (by omega))
   obtain⟨vv0,vv1,vv2,vf2,vz2⟩:=dQ HV2.out
   clear vz vf
   go_wp2
   go_roundw
   case rel=>exact⟨2,by omega,by omega,by first|rfl|go_num,hb2.setCell (Nat.le_refl _) _,Lib.hid (by have:=br HV2.out 1 (.int .i64 (pd*n1+qd*n4+rd*n7));simpa using this)⟩
   case measure=>first|decide|(simp[intOf];done)|(simp[intOf];omega)
  ·simp only[show(1:Int)≤2 by decide,show(2:Int)≤2 by decide,show ¬(3:Int)≤2 by decide,if_false,if_true]at HVb
   obtain⟨x0,x1,x2,_,xz⟩:=dQ HX.out.A
   obtain⟨y0,y1,y2,_,yz⟩:=dQ HX.out.B
   obtain⟨z0,z1,z2,_,zz⟩:=dQ HX.out.C
   have pP:=(ag HX.out.P 3).trans rfl
   have pQ:=(ag HX.out.Q 3).trans rfl
   have pR:=(ag HX.out.R 3).trans rfl
   simp only[List.getElem?_toArray,List.getElem?_cons_zero,List.getElem?_cons_succ]at pP pQ pR
   have zP:=ah HX.out.P
   have zQ:=ah HX.out.Q
   have zR:=ah HX.out.R
   have vz:=ah HVb.out
   have vf:=aC HVb.out
   go_wp2
   refine aQ 22 (by kernel_rfl) (by kernel_rfl) ?_
   simp only[List.take_succ_cons,List.take_zero,List.drop_succ_cons,List.drop_zero]
   repeat(first|go_big_quiet_step (fail)|quiet_step (fail))
   refine wpQuiet_nil ?_
   rintro _ ⟨u,rfl⟩
   have HV2:=Lib.hid ((u.below.block _ vz).trans HVb.out)
   have hb2:Below g Y u.val:=hb.trans (u.below.mono (by omega))
   obtain⟨vv0,vv1,vv2,vf2,vz2⟩:=dQ HV2.out
   clear vz vf
   go_wp2
   go_roundw
   case rel=>exact⟨3,by omega,by omega,by first|rfl|go_num,hb2.setCell (Nat.le_refl _) _,Lib.hid (by have:=br HV2.out 2 (.int .i64 (pd*n2+qd*n5+rd*n8));simpa using this)⟩
   case measure=>first|decide|(simp[intOf];done)|(simp[intOf];omega)
  ·simp only[show(1:Int)≤3 by decide,show(2:Int)≤3 by decide,show(3:Int)≤3 by decide,if_true]at HVb
   have E0: -10000000000≤pd*n0+qd*n3+rd*n6∧pd*n0+qd*n3+rd*n6≤10000000000:=by omega
   have E1: -10000000000≤pd*n1+qd*n4+rd*n7∧pd*n1+qd*n4+rd*n7≤10000000000:=by omega
   have E2: -10000000000≤pd*n2+qd*n5+rd*n8∧pd*n2+qd*n5+rd*n8≤10000000000:=by omega
   clear D0 D1 D2 D3 D4 D5 D6 D7 D8
   generalize pd*n0+qd*n3+rd*n6=s0 at*
   generalize pd*n1+qd*n4+rd*n7=s1 at*
   generalize pd*n2+qd*n5+rd*n8=s2 at*
   have hp:=gj s0 s1 s2 den h0
   have hle:=jl 10000000000 s0 s1 s2 den (by omega) (by omega) (by omega) (by omega)
   have e1:=Lib.hid (bH (aY [s0,s1,s2,den] s0 (by simp)))
   have e2:=Lib.hid (bH (aY [s0,s1,s2,den] s1 (by simp)))
   have e3:=Lib.hid (bH (aY [s0,s1,s2,den] s2 (by simp)))
   have e4:=Lib.hid (bH (aY [s0,s1,s2,den] den (by simp)))
   have Hn:Hid (den<0→eu s0 s1 s2 den=(-(s0 / aU [s0,s1,s2,den]), -(s1 / aU [s0,s1,s2,den]), -(s2 / aU [s0,s1,s2,den]), -(den / aU [s0,s1,s2,den]))):=fun h=>if_pos h
   have Hp:Hid (0≤den→eu s0 s1 s2 den=(s0 / aU [s0,s1,s2,den],s1 / aU [s0,s1,s2,den],s2 / aU [s0,s1,s2,den],den / aU [s0,s1,s2,den])):=fun h=>if_neg (by omega)
   have t1:=bZ (g:=aU [s0,s1,s2,den]) E0
   have t2:=bZ (g:=aU [s0,s1,s2,den]) E1
   have t3:=bZ (g:=aU [s0,s1,s2,den]) E2
   have t4:=bZ (g:=aU [s0,s1,s2,den]) hdb
   have HG:Hid (Nat.gcd (Nat.gcd s0.natAbs s1.natAbs) (Nat.gcd s2.natAbs den.natAbs)=aU [s0,s1,s2,den]):=Lib.hid (by simpa using sy s0 s1 s2 den)
   have l1:Nat.gcd s0.natAbs s1.natAbs≤10000000000:=lH (by omega) (by omega)
   have l2:Nat.gcd s2.natAbs den.natAbs≤10000000000:=lH (by omega) (by omega)
   generalize eu s0 s1 s2 den=pt at*
   generalize aU [s0,s1,s2,den]=gg at*
   obtain⟨x0,x1,x2,_,xz⟩:=dQ HVb.out
   go_wp2
   refine wqb ?_
   repeat(first|go_big_quiet_step ((go_at_call 167;exact aE (jF _ _ _ (by omega) (by omega))))|quiet_step ((go_at_call 167;exact aE (jF _ _ _ (by omega) (by omega)))))
   refine wqn fun u=> ?_
   simp only[Int.natAbs_natCast]
   rw[HG.out]
   have HV2:=Lib.hid ((u.below.block _ (ah HVb.out)).trans HVb.out)
   have zw:=ah HVb.out
   have hbu:Below g Y u.val:=hb.trans (u.below.mono (by omega))
   have HXu:=Lib.hid (HPY.out.below hbu)
   have HO:=Lib.hid HXu.out.O
   have hwu:Below w.heap.size w u.val:=hwY.trans (hbu.mono (by omega))
   clear hb x0 x1 x2 xz HX HVb HG l1 l2 HPY hwY
   generalize u.val=w1 at*
   clear u
   obtain⟨x0,x1,x2,_,xz⟩:=dQ HV2.out
   have o0:=(ag HO.out 0).trans rfl
   have o1:=(ag HO.out 1).trans rfl
   have o2:=(ag HO.out 2).trans rfl
   have o3:=(ag HO.out 3).trans rfl
   simp only[List.getElem?_toArray,List.getElem?_cons_zero,List.getElem?_cons_succ]at o0 o1 o2 o3
   have oz:=ah HO.out
   have of:=aC HO.out
   by_cases hneg:den<0
   ·have k1:¬(-(gg:Int)=0):=by omega
    have hneg':decide (den<0)=true:=decide_eq_true hneg
    go_wp2
    refine aQ 16 (by kernel_rfl) (by kernel_rfl) ?_
    simp only[List.take_succ_cons,List.take_zero,List.drop_succ_cons,List.drop_zero]
    repeat(first|go_big_quiet_step (fail)|quiet_step (fail))
    refine wpQuiet_nil ?_
    rintro _ ⟨u,rfl⟩
    go_wp2
    refine bodyPost_ret (v:= .tuple #[V4 (s0.tdiv (-(gg:Int))) (s1.tdiv (-(gg:Int))) (s2.tdiv (-(gg:Int))) (den.tdiv (-(gg:Int))), .bool true]) (by simp[results,Tryz.results150,go_sem,oz,o0,o1,o2,o3]) rfl ⟨?_, ?_⟩
    ·rw[Hm.out,Hn.out hneg]
     simp only[Int.tdiv_neg]
     rw[e1.out,e2.out,e3.out,e4.out]
    ·exact bel
   ·have k1:¬((gg:Int)=0):=by omega
    have hneg':decide (den<0)=false:=decide_eq_false hneg
    go_wp2
    refine aQ 16 (by kernel_rfl) (by kernel_rfl) ?_
    simp only[List.take_succ_cons,List.take_zero,List.drop_succ_cons,List.drop_zero]
    repeat(first|go_big_quiet_step (fail)|quiet_step (fail))
    refine wpQuiet_nil ?_
    rintro _ ⟨u,rfl⟩
    go_wp2
    refine bodyPost_ret (v:= .tuple #[V4 (s0.tdiv gg) (s1.tdiv gg) (s2.tdiv gg) (den.tdiv gg), .bool true]) (by simp[results,Tryz.results150,go_sem,oz,o0,o1,o2,o3]) rfl ⟨?_, ?_⟩
    ·rw[Hm.out,Hp.out (by omega),e1.out,e2.out,e3.out,e4.out]
    ·exact bel
theorem sA (p c:Q4) (w:World) (hp:bI p) (hc:fD c):Calls Tryz.prog 129 #[v4 p,v4 c] w (Ret w (.int .i64 (sd p c))):=
 sI _ _ _ _ _ _ _ _ w hp.1 hp.2.1 hp.2.2.1 hp.2.2.2 hc.1 hc.2.1 hc.2.2.1 (by have:=hc.2.2.2;omega)
theorem rq {ps:List Q4} {c:Q4} (i:Nat) (h:i<ps.length) (hs:0<sd ps[i] c):bG ps c=false:=by
 unfold bG
 have:(ps.any fun p=>decide (0<sd p c))=true:=List.any_eq_true.2 ⟨ps[i],List.getElem_mem h,by simpa using hs⟩
 rw[this];rfl
theorem pM {ps:List Q4} {c:Q4} (h:∀i (h:i<ps.length),¬0<sd ps[i] c):bG ps c=true:=by
 unfold bG
 have:(ps.any fun p=>decide (0<sd p c))=false:=by
  rw[List.any_eq_false]
  intro p hp
  obtain⟨i,hi,rfl⟩:=List.getElem_of_mem hp
  simpa using h i hi
 rw[this];rfl
theorem oh (ps:List Q4) (c:Q4) (pv:Value) (W:World) (hps:∀p∈ps,bI p) (hc:fD c) (hl:ps.length≤1000000) (hpv:Q4s W pv ps):
  Calls Tryz.prog 151 #[pv,v4 c] W (Ret W (.bool (bG ps c))):=by
 obtain⟨a,n,cc,rfl,hn,_,hx⟩:=hpv
 have HS:=fun i (h:i<ps.length) W'=>Lib.hid (sA ps[i] c W' (hps _ (List.getElem_mem h)) hc)
 have Hno:Hid (∀i (h:i<ps.length),0<sd ps[i] c→bG ps c=false):=Lib.hid (fun i h hs=>rq i h hs)
 have Hyes:Hid ((∀i (h:i<ps.length),¬0<sd ps[i] c)→bG ps c=true):=Lib.hid pM
 generalize bG ps c=res at*
 obtain⟨c0,c1,c2,c3⟩:=c
 obtain⟨V,HV⟩:∃V,Hid (W.alloc (.cells #[.int .i64 c0, .int .i64 c1, .int .i64 c2, .int .i64 c3] 143)=V):=⟨_,Lib.hid rfl⟩
 have hV:Below W.heap.size W V:=by rw[←HV.out];exact bel
 have HC:Hid (V.heap[W.heap.size]? =some (.cells #[.int .i64 c0, .int .i64 c1, .int .i64 c2, .int .i64 c3] 143 (0,0))):=Lib.hid (by rw[←HV.out];exact ai rfl)
 have HX:Hid (0<n→∃b off,a=some ⟨b,off,none⟩∧Q4At V b off ps):=Lib.hid (fun h=>by obtain⟨b,off,e,h2⟩:=hx h;exact⟨b,off,e,h2.below hV⟩)
 clear hx hps hc
 go_enter Tryz.func151,Tryz.ntmps151
 go_wp2
 rw[HV.out]
 go_loopw [5] (fun x wr=>∃i:Nat,i≤n∧x= .int .i64 i∧Below V.heap.size V wr∧Hid (∀j (h:j<ps.length),j<i→¬0<sd ps[j] (c0,c1,c2,c3))) (fun x _=>n-(intOf x).toNat)
 case atStart=>exact⟨0,by omega,rfl,Below.refl _ _,Lib.hid (fun j _ h=>by omega)⟩
 case round=>
  obtain⟨i,hi,rfl,hb,Hd⟩:=hrel
  by_cases hlt:i<n
  ·have g1:(i:Int)<(n:Int):=by omega
   have g2:(0:Int)≤(i:Int):=by omega
   have hil:i<ps.length:=by omega
   obtain⟨b,off,rfl,hi4⟩:=HX.out (by omega)
   obtain⟨e0,e1,e2,e3⟩:=(hi4.below hb) i hil
   have ze:=World.block_lt_of_cell? wr _ e0
   simp only at ze
   have HSi:=fun W'=>Lib.hid ((HS i hil W').out)
   have HCr:=Lib.hid ((hb.block _ (ah HC.out)).trans HC.out)
   have f0:=(ag HCr.out 0).trans rfl
   have f1:=(ag HCr.out 1).trans rfl
   have f2:=(ag HCr.out 2).trans rfl
   have f3:=(ag HCr.out 3).trans rfl
   simp only[List.getElem?_toArray,List.getElem?_cons_zero,List.getElem?_cons_succ]at f0 f1 f2 f3
   have zf:=ah HCr.out
   have Hno':=Lib.hid (Hno.out i hil)
   have Hst:Hid (¬0<sd ps[i] (c0,c1,c2,c3)→∀j (h:j<ps.length),j<i+1→¬0<sd ps[j] (c0,c1,c2,c3)):=Lib.hid (fun h j hj hji=>by
    by_cases e:j=i
    ·subst e;exact h
    ·exact Hd.out j hj (by omega))
   clear HS Hno Hd hi4 HX
   generalize sd ps[i] (c0,c1,c2,c3)=s at*
   generalize ps[i]=p at*
   obtain⟨p0,p1,p2,p3⟩:=p
   simp only at e0 e1 e2 e3 HSi
   by_cases hs:0<s
   ·have hs':decide (0<s)=true:=decide_eq_true hs
    go_wp2
    refine wqb ?_
    repeat(first|go_big_quiet_step ((go_at_call 129;exact aE ((HSi _).out)))|quiet_step ((go_at_call 129;exact aE ((HSi _).out))))
    refine wqn fun u=> ?_
    go_wp2
    go_ret
    exact⟨ay (Hno'.out hs).symm,ae hV (ae hb u.below)⟩
   ·have hs':decide (0<s)=false:=decide_eq_false hs
    go_wp2
    refine wqb ?_
    repeat(first|go_big_quiet_step ((go_at_call 129;exact aE ((HSi _).out)))|quiet_step ((go_at_call 129;exact aE ((HSi _).out))))
    refine wqn fun u=> ?_
    go_wp2
    go_roundw
    case rel=>exact⟨i+1,by omega,by go_num,ae hb u.below,Lib.hid (fun j h hj=>by have:=Hst.out hs j h hj;omega)⟩
    case measure=>first|(simp[intOf];done)|(simp[intOf];omega)
  ·obtain rfl:i=n:=by omega
   have g1:¬(i:Int)<(i:Int):=by omega
   go_wp2
   go_ret
   exact⟨ay (Hyes.out (fun j h=>Hd.out j h (by omega))).symm,ae hV hb⟩
theorem mV (cs:List Q4) (c:Q4) (cv:Value) (W:World) (hl:cs.length≤1000000) (hcv:Q4s W cv cs):
  Calls Tryz.prog 152 #[cv,v4 c] W (Ret W (.bool (decide (c∈cs)))):=by
 obtain⟨a,n,cc,rfl,hn,_,hx⟩:=hcv
 have Hyes:Hid (∀i (h:i<cs.length),cs[i]=c→decide (c∈cs)=true):=Lib.hid (fun i h e=>decide_eq_true (by rw[←e];exact List.getElem_mem h))
 have Hno:Hid ((∀i (h:i<cs.length),cs[i]≠c)→decide (c∈cs)=false):=Lib.hid (fun h=>decide_eq_false (fun hm=>by
  obtain⟨i,hi,e⟩:=List.getElem_of_mem hm
  exact h i hi e))
 generalize decide (c∈cs)=res at*
 obtain⟨c0,c1,c2,c3⟩:=c
 obtain⟨V,HV⟩:∃V,Hid (W.alloc (.cells #[.int .i64 c0, .int .i64 c1, .int .i64 c2, .int .i64 c3] 143)=V):=⟨_,Lib.hid rfl⟩
 have hV:Below W.heap.size W V:=by rw[←HV.out];exact bel
 have HC:Hid (V.heap[W.heap.size]? =some (.cells #[.int .i64 c0, .int .i64 c1, .int .i64 c2, .int .i64 c3] 143 (0,0))):=Lib.hid (by rw[←HV.out];exact ai rfl)
 have HX:Hid (0<n→∃b off,a=some ⟨b,off,none⟩∧Q4At V b off cs):=Lib.hid (fun h=>by obtain⟨b,off,e,h2⟩:=hx h;exact⟨b,off,e,h2.below hV⟩)
 clear hx
 go_enter Tryz.func152,Tryz.ntmps152
 go_wp2
 rw[HV.out]
 go_loopw [5] (fun x wr=>∃i:Nat,i≤n∧x= .int .i64 i∧Below V.heap.size V wr∧Hid (∀j (h:j<cs.length),j<i→cs[j]≠(c0,c1,c2,c3))) (fun x _=>n-(intOf x).toNat)
 case atStart=>exact⟨0,by omega,rfl,Below.refl _ _,Lib.hid (fun j _ h=>by omega)⟩
 case round=>
  obtain⟨i,hi,rfl,hb,Hd⟩:=hrel
  by_cases hlt:i<n
  ·have g1:(i:Int)<(n:Int):=by omega
   have g2:(0:Int)≤(i:Int):=by omega
   have hil:i<cs.length:=by omega
   obtain⟨b,off,rfl,hi4⟩:=HX.out (by omega)
   obtain⟨e0,e1,e2,e3⟩:=(hi4.below hb) i hil
   have ze:=World.block_lt_of_cell? wr _ e0
   simp only at ze
   have HCr:=Lib.hid ((hb.block _ (ah HC.out)).trans HC.out)
   have f0:=(ag HCr.out 0).trans rfl
   have f1:=(ag HCr.out 1).trans rfl
   have f2:=(ag HCr.out 2).trans rfl
   have f3:=(ag HCr.out 3).trans rfl
   simp only[List.getElem?_toArray,List.getElem?_cons_zero,List.getElem?_cons_succ]at f0 f1 f2 f3
   have zf:=ah HCr.out
   have Hyes':=Lib.hid (Hyes.out i hil)
   have Hst:Hid (cs[i]≠(c0,c1,c2,c3)→∀j (h:j<cs.length),j<i+1→cs[j]≠(c0,c1,c2,c3)):=Lib.hid (fun h j hj hji=>by
    by_cases e:j=i
    ·subst e;exact h
    ·exact Hd.out j hj (by omega))
   clear Hyes Hd hi4 HX
   generalize cs[i]=p at*
   obtain⟨p0,p1,p2,p3⟩:=p
   simp only at e0 e1 e2 e3
   by_cases h0:p0=c0
   ·subst h0
    by_cases h1:p1=c1
    ·subst h1
     by_cases h2:p2=c2
     ·subst h2
      by_cases h3:p3=c3
      ·subst h3
       go_wp2
       refine wqf fun u=> ?_
       go_wp2
       go_ret
       exact⟨ay (Hyes'.out (by first|trivial|rfl)).symm,ae hV (ae hb u.below)⟩
      ·go_wp2
       refine wqf fun u=> ?_
       go_wp2
       go_roundw
       case rel=>exact⟨i+1,by omega,by go_num,ae hb u.below,Lib.hid (Hst.out (fun e=>h3 (by cases e;rfl)))⟩
       case measure=>first|(simp[intOf];done)|(simp[intOf];omega)
     ·go_wp2
      refine wqf fun u=> ?_
      go_wp2
      go_roundw
      case rel=>exact⟨i+1,by omega,by go_num,ae hb u.below,Lib.hid (Hst.out (fun e=>h2 (by cases e;rfl)))⟩
      case measure=>first|(simp[intOf];done)|(simp[intOf];omega)
    ·go_wp2
     refine wqf fun u=> ?_
     go_wp2
     go_roundw
     case rel=>exact⟨i+1,by omega,by go_num,ae hb u.below,Lib.hid (Hst.out (fun e=>h1 (by cases e;rfl)))⟩
     case measure=>first|(simp[intOf];done)|(simp[intOf];omega)
   ·go_wp2
    refine wqf fun u=> ?_
    go_wp2
    go_roundw
    case rel=>exact⟨i+1,by omega,by go_num,ae hb u.below,Lib.hid (Hst.out (fun e=>h0 (by cases e;rfl)))⟩
    case measure=>first|(simp[intOf];done)|(simp[intOf];omega)
  ·obtain rfl:i=n:=by omega
   have g1:¬(i:Int)<(i:Int):=by omega
   go_wp2
   go_ret
   exact⟨ay (Hno.out (fun j h=>Hd.out j h (by omega))).symm,ae hV hb⟩
def okB (p q r:Q4):Bool:=bN p q r !=0
def lD (p q r:Q4):Q4:=if bN p q r=0 then(0,0,0,0)else dv p q r (bN p q r)
theorem rr (p q r:Q4) (w:World) (hp:bI p) (hq:bI q) (hr:bI r):
  Calls Tryz.prog 150 #[v4 p,v4 q,v4 r] w (Ret w (.tuple #[v4 (lD p q r), .bool (okB p q r)])):=by
 unfold lD okB
 by_cases h:bN p q r=0
 ·rw[if_pos h,h]
  exact pJ p q r w hp hq hr h
 ·rw[if_neg h,show(bN p q r !=0)=true by simpa using h]
  exact pL p q r w hp hq hr h
def pN (l:List Q4):List Q4:=l.foldl jc []
theorem tC (l:List Q4) (c:Q4):pN (l++[c])=jc (pN l) c:=by simp[pN]
theorem pO (l:List Q4):(pN l).length≤l.length:=by
 have key:∀(l out:List Q4),(l.foldl jc out).length≤out.length+l.length:=by
  intro l
  induction l with
  |nil=>intro out;simp
  |cons c l ih=>
   intro out
   rw[List.foldl_cons]
   have:=ih (jc out c)
   have h2:(jc out c).length≤out.length+1:=by unfold jc;split<;>simp
   simp only[List.length_cons]
   omega
 have:=key l []
 unfold pN
 simpa using this
def fX (ps:List Q4) (i k m:Nat):List Q4:=pN (raw ps i++gJ ps i k++gI ps i k m)
theorem BD (ps:List Q4) (i k:Nat):fX ps i k k=fX ps i (k+1) 0:=by
 unfold fX
 rw[jZ,iz,List.append_nil,List.append_assoc]
theorem BE (ps:List Q4) (i:Nat):fX ps i i 0=fX ps (i+1) 0 0:=by
 unfold fX
 simp only[lS,iz,kd,List.append_nil]
theorem xH (ps:List Q4) (i k m:Nat) (h:okB (bm ps i) (bm ps k) (bm ps m)=false):fX ps i k (m+1)=fX ps i k m:=by
 have h0:bN (bm ps i) (bm ps k) (bm ps m)=0:=by simpa [okB]using h
 unfold fX
 rw[gq]
 unfold jo
 rw[if_pos h0,List.append_nil]
theorem vB (ps:List Q4) (i k m:Nat) (h:okB (bm ps i) (bm ps k) (bm ps m)=true) (ha:bG ps (lD (bm ps i) (bm ps k) (bm ps m))=false):fX ps i k (m+1)=fX ps i k m:=by
 have h0:bN (bm ps i) (bm ps k) (bm ps m)≠0:=by simpa [okB]using h
 unfold lD at ha
 rw[if_neg h0]at ha
 unfold fX
 rw[gq]
 unfold jo
 rw[if_neg h0,ha]
 simp
theorem vC (ps:List Q4) (i k m:Nat) (h:okB (bm ps i) (bm ps k) (bm ps m)=true) (ha:bG ps (lD (bm ps i) (bm ps k) (bm ps m))=true):fX ps i k (m+1)=jc (fX ps i k m) (lD (bm ps i) (bm ps k) (bm ps m)):=by
 have h0:bN (bm ps i) (bm ps k) (bm ps m)≠0:=by simpa [okB]using h
 unfold lD at ha ⊢
 rw[if_neg h0]at ha ⊢
 unfold fX
 rw[gq]
 unfold jo
 rw[if_neg h0,ha,if_pos rfl, ←List.append_assoc,tC]
theorem vD (ps:List Q4) (i k m:Nat) (hi:i≤64) (hk:k≤64) (hm:m≤64):(fX ps i k m).length≤300000:=by
 have h1:=pO (raw ps i++gJ ps i k++gI ps i k m)
 rw[List.length_append,List.length_append]at h1
 have h2:=jp ps i hi
 have h3:=lU ps i k hk
 have h4:=lT ps i k m
 unfold fX
 omega
theorem xI (p q r:Q4) (hp:bI p) (hq:bI q) (hr:bI r) (h:okB p q r=true):fD (lD p q r):=by
 have h0:bN p q r≠0:=by simpa [okB]using h
 unfold lD
 rw[if_neg h0]
 have:=lV p q r hp hq hr
 exact lW p q r _ hp hq hr (by omega) h0
theorem ru {B:Nat} {w0 w:World} {g:Nat} (h:Below B w0 w) (hg:B≤g) (a b c d:Value):Below B w0 (tB w g a b c d):=(((h.setCell hg _).setCell hg _).setCell hg _).setCell hg _
theorem pS (ps:List Q4) (pv:Value) (W:World) (hps:∀p∈ps,bI p) (hl:ps.length≤64) (hpv:Q4s W pv ps):
  Calls Tryz.prog 112 #[pv] W fun e w'=>∃r,e= .returned r∧Below W.heap.size W w'∧w'.ownsRow W.heap.size 143 4 r (cd ps).length ((cd ps).flatMap aH):=by
 obtain⟨i0,hi0,hz0,hz1,hz2⟩:=info_parts kN
 have Hi0:=Lib.hid (And.intro hi0 (And.intro hz0 (And.intro hz1 hz2)))
 clear hi0 hz0 hz1 hz2
 have Hpv:=Lib.hid hpv
 obtain⟨a,n,cc,rfl,hn,_,hx⟩:=hpv
 have HX:Hid (0<n→∃b off,a=some ⟨b,off,none⟩∧Q4At W b off ps):=Lib.hid hx
 have Hok:=fun i (h:i<ps.length)=>Lib.hid (dN hps i h)
 have Hge:=fun i (h:i<ps.length)=>Lib.hid (eN (ps:=ps) i h)
 have HP:=fun i j k (hi:i<ps.length) (hj:j<ps.length) (hk:k<ps.length) W'=>Lib.hid (rr (bm ps i) (bm ps j) (bm ps k) W' (Hok i hi).out (Hok j hj).out (Hok k hk).out)
 have HA:=fun i j k (hi:i<ps.length) (hj:j<ps.length) (hk:k<ps.length) (h:okB (bm ps i) (bm ps j) (bm ps k)=true) W' hb=>Lib.hid (oh ps (lD (bm ps i) (bm ps j) (bm ps k)) _ W' hps (xI _ _ _ (Hok i hi).out (Hok j hj).out (Hok k hk).out h) (by omega) (Hpv.out.below hb))
 have Hno:=fun i k m=>Lib.hid (xH ps i k m)
 have Hbar:=fun i k m=>Lib.hid (vB ps i k m)
 have Hyes:=fun i k m=>Lib.hid (vC ps i k m)
 have Hm:=fun i k=>Lib.hid (BD ps i k)
 have Hk:=fun i=>Lib.hid (BE ps i)
 have Hln:=fun i k m h1 h2 h3=>Lib.hid (vD ps i k m h1 h2 h3)
 have H0:Hid (fX ps 0 0 0=[]):=Lib.hid rfl
 have Hfin:Hid (fX ps n 0 0=cd ps):=Lib.hid (by
  unfold fX cd pN
  rw[kd,iz,List.append_nil,List.append_nil,hn])
 generalize cd ps=res at*
 generalize fX ps=acc at*
 clear hx hps Hok Hpv
 go_enter Tryz.func112,Tryz.ntmps112
 go_wp2
 go_loopw [3,4] (fun s x wr=>∃i:Nat,i≤n∧x= .int .i64 i∧Below W.heap.size W wr∧Hid (wr.ownsRow W.heap.size 143 4 s (acc i 0 0).length ((acc i 0 0).flatMap aH))) (fun _ x _=>n-(intOf x).toNat)
 case atStart=>exact⟨0,by omega,rfl,Below.refl _ _,Lib.hid (by rw[H0.out];exact World.ownsRow_nil _ _ _ _)⟩
 case round=>
  obtain⟨i,hi,rfl,hb,HO⟩:=hrel
  by_cases hlt:i<n
  ·have g1:(i:Int)<(n:Int):=by omega
   have g2:(0:Int)≤(i:Int):=by omega
   have hil:i<ps.length:=by omega
   go_wp2
   go_loopw [3,5] (fun s x wr=>∃k:Nat,k≤i∧x= .int .i64 k∧Below W.heap.size W wr∧Hid (wr.ownsRow W.heap.size 143 4 s (acc i k 0).length ((acc i k 0).flatMap aH))) (fun _ x _=>i-(intOf x).toNat)
   case atStart=>exact⟨0,by omega,rfl,hb,HO⟩
   case round=>
    clear hb HO
    obtain⟨k,hk,rfl,hb,HO⟩:=hrel
    by_cases hlk:k<i
    ·have g3:(k:Int)<(i:Int):=by omega
     have g4:(0:Int)≤(k:Int):=by omega
     have g4':(k:Int)<(n:Int):=by omega
     have hkl:k<ps.length:=by omega
     go_wp2
     go_loopw [3,6] (fun s x wr=>∃m:Nat,m≤k∧x= .int .i64 m∧Below W.heap.size W wr∧Hid (wr.ownsRow W.heap.size 143 4 s (acc i k m).length ((acc i k m).flatMap aH))) (fun _ x _=>k-(intOf x).toNat)
     case atStart=>exact⟨0,by omega,rfl,hb,HO⟩
     case round=>
      clear hb HO
      obtain⟨m,hm,rfl,hb,HO⟩:=hrel
      by_cases hlm:m<k
      ·have g5:(m:Int)<(k:Int):=by omega
       have g6:(0:Int)≤(m:Int):=by omega
       have g6':(m:Int)<(n:Int):=by omega
       have hml:m<ps.length:=by omega
       obtain⟨b,off,rfl,hi4⟩:=HX.out (by omega)
       obtain⟨x0,x1,x2,x3⟩:=(hi4.below hb) i hil
       obtain⟨y0,y1,y2,y3⟩:=(hi4.below hb) k hkl
       obtain⟨z0,z1,z2,z3⟩:=(hi4.below hb) m hml
       rw[(Hge i hil).out]at x0 x1 x2 x3
       rw[(Hge k hkl).out]at y0 y1 y2 y3
       rw[(Hge m hml).out]at z0 z1 z2 z3
       have zx:=World.block_lt_of_cell? wr _ x0
       simp only at zx
       have HPi:=fun W'=>Lib.hid ((HP i k m hil hkl hml W').out)
       have HAi:=fun h W' hb=>Lib.hid ((HA i k m hil hkl hml h W' hb).out)
       have Hno':=Lib.hid ((Hno i k m).out)
       have Hbar':=Lib.hid ((Hbar i k m).out)
       have Hyes':=Lib.hid ((Hyes i k m).out)
       have hln:=(Hln i k m (by omega) (by omega) (by omega)).out
       have HAcc:Hid (∀c,jc (acc i k m) c=if c∈acc i k m then acc i k m else acc i k m++[c]):=Lib.hid (fun c=>rfl)
       clear HP HA Hno Hbar Hyes hi4 HX Hge
       generalize bG ps (lD (bm ps i) (bm ps k) (bm ps m))=al at*
       generalize lD (bm ps i) (bm ps k) (bm ps m)=R at*
       generalize okB (bm ps i) (bm ps k) (bm ps m)=ok at*
       generalize bm ps i=P at*
       generalize bm ps k=Q at*
       generalize bm ps m=S at*
       generalize acc i k m=A at*
       obtain⟨P0,P1,P2,P3⟩:=P
       obtain⟨Q0,Q1,Q2,Q3⟩:=Q
       obtain⟨S0,S1,S2,S3⟩:=S
       obtain⟨R0,R1,R2,R3⟩:=R
       simp only at x0 x1 x2 x3 y0 y1 y2 y3 z0 z1 z2 z3
       go_wp2
       refine lB [15] [0,1,2,3,4,5,6,7,8,9,10,11,12,13,14,15,16] 17 [18] (pick [IsV (.slice (some ⟨b,off,none⟩) n cc),IsV (.int .i64 (i:Int)),IsV (.pointer (some ⟨b,off+i*4,none⟩)),IsV (v4 (P0,P1,P2,P3)),IsV (.slice (some ⟨b,off,none⟩) n cc),IsV (.int .i64 (k:Int)),IsV (.pointer (some ⟨b,off+k*4,none⟩)),IsV (v4 (Q0,Q1,Q2,Q3)),IsV (.slice (some ⟨b,off,none⟩) n cc),IsV (.int .i64 (m:Int)),IsV (.pointer (some ⟨b,off+m*4,none⟩)),IsV (v4 (S0,S1,S2,S3)),IsV (.tuple #[v4 (R0,R1,R2,R3), .bool ok]),IsV (.tuple #[v4 (R0,R1,R2,R3), .bool ok]),IsV (v4 (R0,R1,R2,R3)),IsV (.bool ok),da wr.heap.size 143 #[.int .i64 0, .int .i64 0, .int .i64 0, .int .i64 0]]) (by kernel_rfl) (by kernel_rfl) (Stabs.pick (by repeat(first|exact Stabs.nil|refine Stabs.cons (by first|exact dj _|exact ar _ _ _) ?_))) ?_
       try go_frame
       refine wgn rfl rfl (by simp) (fun w' hb' hR K hK=> ?_) (fun o0=> ?_)
       ·clear hR
        go_simp
        exact hK _ _ brf rfl
       try go_frame
       refine wgn rfl rfl (by simp) (fun w' hb' hR K hK=> ?_) (fun o1=> ?_)
       ·clear hR
        go_simp
        exact hK _ _ brf rfl
       try go_frame
       refine wgn rfl rfl (by simp) (fun w' hb' hR K hK=> ?_) (fun o2=> ?_)
       ·obtain rfl:o0= .slice (some ⟨b,off,none⟩) n cc:=hR 0 (by kernel_rfl)
        obtain rfl:o1= .int .i64 (i:Int):=hR 1 (by kernel_rfl)
        clear hR
        go_simp
        exact hK _ _ brf rfl
       try go_frame
       refine wgn rfl rfl (by simp) (fun w' hb' hR K hK=> ?_) (fun o3=> ?_)
       ·obtain rfl:o2= .pointer (some ⟨b,off+i*4,none⟩):=hR 2 (by kernel_rfl)
        clear hR
        have q0:=ab hb' x0
        have q1:=ab hb' x1
        have q2:=ab hb' x2
        have q3:=ab hb' x3
        have qz:=Nat.lt_of_lt_of_le zx hb'.size
        go_simp
        exact hK _ _ brf rfl
       try go_frame
       refine wgn rfl rfl (by simp) (fun w' hb' hR K hK=> ?_) (fun o4=> ?_)
       ·clear hR
        go_simp
        exact hK _ _ brf rfl
       try go_frame
       refine wgn rfl rfl (by simp) (fun w' hb' hR K hK=> ?_) (fun o5=> ?_)
       ·clear hR
        go_simp
        exact hK _ _ brf rfl
       try go_frame
       refine wgn rfl rfl (by simp) (fun w' hb' hR K hK=> ?_) (fun o6=> ?_)
       ·obtain rfl:o4= .slice (some ⟨b,off,none⟩) n cc:=hR 4 (by kernel_rfl)
        obtain rfl:o5= .int .i64 (k:Int):=hR 5 (by kernel_rfl)
        clear hR
        go_simp
        exact hK _ _ brf rfl
       try go_frame
       refine wgn rfl rfl (by simp) (fun w' hb' hR K hK=> ?_) (fun o7=> ?_)
       ·obtain rfl:o6= .pointer (some ⟨b,off+k*4,none⟩):=hR 6 (by kernel_rfl)
        clear hR
        have q0:=ab hb' y0
        have q1:=ab hb' y1
        have q2:=ab hb' y2
        have q3:=ab hb' y3
        have qz:=Nat.lt_of_lt_of_le zx hb'.size
        go_simp
        exact hK _ _ brf rfl
       try go_frame
       refine wgn rfl rfl (by simp) (fun w' hb' hR K hK=> ?_) (fun o8=> ?_)
       ·clear hR
        go_simp
        exact hK _ _ brf rfl
       try go_frame
       refine wgn rfl rfl (by simp) (fun w' hb' hR K hK=> ?_) (fun o9=> ?_)
       ·clear hR
        go_simp
        exact hK _ _ brf rfl
       try go_frame
       refine wgn rfl rfl (by simp) (fun w' hb' hR K hK=> ?_) (fun o10=> ?_)
       ·obtain rfl:o8= .slice (some ⟨b,off,none⟩) n cc:=hR 8 (by kernel_rfl)
        obtain rfl:o9= .int .i64 (m:Int):=hR 9 (by kernel_rfl)
        clear hR
        go_simp
        exact hK _ _ brf rfl
       try go_frame
       refine wgn rfl rfl (by simp) (fun w' hb' hR K hK=> ?_) (fun o11=> ?_)
       ·obtain rfl:o10= .pointer (some ⟨b,off+m*4,none⟩):=hR 10 (by kernel_rfl)
        clear hR
        have q0:=ab hb' z0
        have q1:=ab hb' z1
        have q2:=ab hb' z2
        have q3:=ab hb' z3
        have qz:=Nat.lt_of_lt_of_le zx hb'.size
        go_simp
        exact hK _ _ brf rfl
       try go_frame
       refine wgn rfl rfl (by simp) (fun w' hb' hR K hK=> ?_) (fun o12=> ?_)
       ·obtain rfl:o3=v4 (P0,P1,P2,P3):=hR 3 (by kernel_rfl)
        obtain rfl:o7=v4 (Q0,Q1,Q2,Q3):=hR 7 (by kernel_rfl)
        obtain rfl:o11=v4 (S0,S1,S2,S3):=hR 11 (by kernel_rfl)
        clear hR
        go_simp
        refine((HPi _).out).mono ?_
        rintro e w1 ⟨rfl,hb1⟩
        exact hK _ _ hb1 rfl
       try go_frame
       refine wgn rfl rfl (by simp) (fun w' hb' hR K hK=> ?_) (fun o13=> ?_)
       ·obtain rfl:o12= .tuple #[v4 (R0,R1,R2,R3), .bool ok]:=hR 12 (by kernel_rfl)
        clear hR
        go_simp
        exact hK _ _ brf rfl
       try go_frame
       refine wgn rfl rfl (by simp) (fun w' hb' hR K hK=> ?_) (fun o14=> ?_)
       ·obtain rfl:o13= .tuple #[v4 (R0,R1,R2,R3), .bool ok]:=hR 13 (by kernel_rfl)
        clear hR
        go_simp
        exact hK _ _ brf rfl
       try go_frame
       refine wgz rfl rfl (fun w' hb' hR K' hK'=> ?_) (fun o15=> ?_)
       ·obtain rfl:o13= .tuple #[v4 (R0,R1,R2,R3), .bool ok]:=hR 13 (by kernel_rfl)
        clear hR
        go_simp
        exact hK' _ (fun _=>rfl)
       try go_frame
       refine wgn rfl rfl (by simp) (fun w' hb' hR K hK=> ?_) (fun o16=> ?_)
       ·clear hR
        have zz:=hb'.size
        go_simp
        exact hK _ _ bel ⟨_,rfl,zz,ai rfl⟩
       try go_frame
       refine uL (fun w' hb' hR=> ?_)
       obtain rfl:o14=v4 (R0,R1,R2,R3):=hR 14 (by simp)
       obtain rfl:o15= .bool ok:=hR 15 (by simp)
       obtain⟨g,rfl,hg,hB⟩:da wr.heap.size 143 #[.int .i64 0, .int .i64 0, .int .i64 0, .int .i64 0] o16 w':=hR 16 (by simp)
       have HB:=Lib.hid hB
       obtain⟨c0,c1,c2,c3,cf,cz⟩:=ff hB
       obtain⟨X,HX⟩:∃X,Hid (tB w' g (.int .i64 R0) (.int .i64 R1) (.int .i64 R2) (.int .i64 R3)=X):=⟨_,Lib.hid rfl⟩
       have hwX:Below wr.heap.size wr X:=by rw[←HX.out];exact ru hb' hg _ _ _ _
       have HBX:Hid (X.heap[g]? =some (.cells #[.int .i64 R0, .int .i64 R1, .int .i64 R2, .int .i64 R3] 143 (0,0))):=Lib.hid (by rw[←HX.out];exact pI HB.out _ _ _ _)
       have eX:(((w'.setCell ⟨g,0,none⟩ (.int .i64 R0)).setCell ⟨g,1,none⟩ (.int .i64 R1)).setCell ⟨g,2,none⟩ (.int .i64 R2)).setCell ⟨g,3,none⟩ (.int .i64 R3)=X:=HX.out
       have hbX:=ae hb hwX
       have HOX:=Lib.hid (au HO.out hwX)
       clear hR hB x0 x1 x2 x3 y0 y1 y2 y3 z0 z1 z2 z3 zx HPi
       simp only[oas]
       go_wp2
       refine NoPanic.normal ?_
       try rw[eX]
       clear eX HX HB c0 c1 c2 c3 cf cz hb' hwX HO hb
       obtain⟨c0,c1,c2,c3,cf,cz⟩:=ff HBX.out
       cases ok with
       |false=>
        have he:=Lib.hid (Hno'.out (by first|trivial|rfl))
        go_wp2
        go_roundw
        case rel=>exact⟨m+1,by omega,by go_num,hbX,Lib.hid (by rw[he.out];exact HOX.out)⟩
        case measure=>first|(simp[intOf];done)|(simp[intOf];omega)
       |true=>
        have HA2:=Lib.hid ((HAi rfl X hbX).out)
        clear HAi
        go_wp2_with fail
        refine(HA2.out).mono ?_
        rintro en w2 ⟨rfl,hb2⟩
        have HO2:=Lib.hid (au HOX.out hb2)
        have HB2:=Lib.hid ((hb2.block _ cz).trans HBX.out)
        have hbX:=ae hbX hb2
        have HOX:=HO2
        clear HA2 hb2 HO2 c0 c1 c2 c3 cf cz HBX
        obtain⟨c0,c1,c2,c3,cf,cz⟩:=ff HB2.out
        cases al with
        |false=>
         have he:=Lib.hid (Hbar'.out (by first|trivial|rfl) (by first|trivial|rfl))
         go_wp2
         go_roundw
         case rel=>exact⟨m+1,by omega,by go_num,hbX,Lib.hid (by rw[he.out];exact HOX.out)⟩
         case measure=>first|(simp[intOf];done)|(simp[intOf];omega)
        |true=>
         have he:=Lib.hid (Hyes'.out (by first|trivial|rfl) (by first|trivial|rfl))
         have HHc:=Lib.hid (mV A (R0,R1,R2,R3) _ w2 (by omega) (dV HOX.out))
         clear Hno' Hbar' Hyes'
         by_cases hin:(R0,R1,R2,R3)∈A
         ·rw[decide_eq_true hin]at HHc
          have he2:=Lib.hid (he.out.trans ((HAcc.out _).trans (if_pos hin)))
          go_wp2_with fail
          refine(HHc.out).mono ?_
          rintro en w3 ⟨rfl,hb3⟩
          have hbX:=ae hbX hb3
          have HOX:=Lib.hid (au HOX.out hb3)
          go_wp2
          go_roundw
          case rel=>exact⟨m+1,by omega,by go_num,hbX,Lib.hid (by rw[he2.out];exact HOX.out)⟩
          case measure=>first|(simp[intOf];done)|(simp[intOf];omega)
         ·rw[decide_eq_false hin]at HHc
          have he2:=Lib.hid (he.out.trans ((HAcc.out _).trans (if_neg hin)))
          go_wp2_with fail
          refine(HHc.out).mono ?_
          rintro en w3 ⟨rfl,hb3⟩
          have hbX:=ae hbX hb3
          have HOX:=Lib.hid (au HOX.out hb3)
          have HB3:=Lib.hid ((hb3.block _ cz).trans HB2.out)
          clear hb3 HHc he HAcc c0 c1 c2 c3 cf cz HB2
          obtain⟨c0,c1,c2,c3,cf,cz⟩:=ff HB3.out
          go_wp2_with (at_builtin;refine wpList_append_own _ rfl _ _ 139 rfl W.heap.size 143 i0 (v4 (0,0,0,0)) 4 32 kO Hi0.out.1 Hi0.out.2.1 Hi0.out.2.2.1 Hi0.out.2.2.2 rfl (by decide) _ A.length _ rfl (HOX.out.alloc _) ⟨w3.heap.size,0,none⟩ 1 1 (aH (R0,R1,R2,R3)) rfl rfl ?c1 ?c2 ?c3 ?c4 ?c5 ?_)
          case c1=>
           intro jj uu hu
           rw[jY,aq rfl jj]
           simpa [aH]using hu
          case c2=>intro v hv;simp[aH]at hv;rcases hv with rfl|rfl|rfl|rfl<;>rfl
          case c3=>unfold maxLen;omega
          case c4=>omega
          case c5=>simp;have:=hbX.size;omega
          intro v' w4 hown4 hg4 _
          have hb4:Below W.heap.size W w4:=(hbX.alloc hbX.size _).grown hg4 (by simp;have:=hbX.size;omega) (fun z hz=>by have:=(HOX.out.lt z hz).1;omega)
          have HO4:=Lib.hid hown4
          clear hown4 hg4
          go_wp2
          go_roundw
          case rel=>exact⟨m+1,by omega,by go_num,hb4,Lib.hid (by rw[he2.out];simpa using HO4.out)⟩
          case measure=>first|(simp[intOf];done)|(simp[intOf];omega)
      ·obtain rfl:m=k:=by omega
       have g5:¬(m:Int)<(m:Int):=by omega
       go_wp2
       go_roundw
       case rel=>exact⟨m+1,by omega,by go_num,hb,Lib.hid (by rw[←(Hm i m).out];exact HO.out)⟩
       case measure=>first|(simp[intOf];done)|(simp[intOf];omega)
    ·obtain rfl:k=i:=by omega
     have g3:¬(k:Int)<(k:Int):=by omega
     go_wp2
     go_roundw
     case rel=>exact⟨k+1,by omega,by go_num,hb,Lib.hid (by rw[←(Hk k).out];exact HO.out)⟩
     case measure=>first|(simp[intOf];done)|(simp[intOf];omega)
  ·obtain rfl:i=n:=by omega
   have g1:¬(i:Int)<(i:Int):=by omega
   go_wp2
   go_ret
   exact⟨_,rfl,hb,by rw[←Hfin.out];exact HO.out⟩
end
end Go.Proofs.YtokhkhnofkcalaaGreatDoor
