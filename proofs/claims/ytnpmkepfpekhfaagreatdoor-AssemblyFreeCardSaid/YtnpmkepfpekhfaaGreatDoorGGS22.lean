/- texts: GM. -/
import Derived.Test.YtnpmkepfpekhfaaGreatDoorGGS21
namespace Go.Proofs.YtnpmkepfpekhfaaGreatDoor
set_option maxHeartbeats 8000000
set_option linter.all false
section
open Go.RowKit
section
variable {P:Program} {ops:Array Oper} {md:Region.Mode} {Q:Exit→Act→World→Prop}
def vK (P:Program) (ops:Array Oper) (S:World→Prop) (Q:Exit→Act→World→Prop) (fin:List Nat):List Nat→Exit→Act→World→Prop
 | []=>Mid P ops S Q (bu ops fin)
 |m::ms=>fun e a w=>match e with
  | .normal=>S w∧wpList P ops (vK P ops S Q fin ms) (bu ops [m]) a w
  |_=>False
theorem pY {S:World→Prop} {fin:List Nat} {m g:Nat} {listed:Array Bool} {a:Act} {w:World} (hB:Region.ready md ops listed=[m]) {R:Exit→Act→World→Prop} {T:Act→World→Prop} (hR:R=fun e a w=>match e with| .normal=>S w∧T a w|_=>False)
  (h:wpList P ops R (bu ops [m]) a w) (hT:∀a' w',T a' w'→jX P md ops Q S fin g (listed.setIfInBounds m true) a' w'):jX P md ops Q S fin (g+1) listed a w:=by
 have hi:m∈Region.ready md ops listed:=by rw[hB];simp
 obtain⟨_,om,hom,_⟩:=mem_ready.1 hi
 refine⟨fun h1=>(by rw[hB]at h1;cases h1),fun j hj=> ?_⟩
 rw[hB]at hj
 have hji:j=m:=by simpa using hj
 subst hji
 have h':wpList P ops R [om] a w:=by simpa [bu,hom]using h
 have:=lR (Q:=Q) h' j hom (fun e a w he=>by subst hR;cases e<;>first|rfl|exact he.elim)
 refine wpOp_mono (fun a' w' h'=> ?_) this
 subst hR
 exact⟨fun _=>h'.1,hT _ _ h'.2⟩
theorem nz {S:World→Prop} {f0:Nat} {fs:List Nat}:∀(ms:List Nat) (t0:Nat) (listed:Array Bool) (a:Act) (w:World),bJ md ops (t0::(ms++f0::fs)) listed=true→wpList P ops (vK P ops S Q (f0::fs) ms) (bu ops [t0]) a w→
  jX P md ops (NoPanic Q) S (f0::fs) (1+(ms.length+(fs.length+1))) listed a w
 | [],t0,listed,a,w,hB,h=>by
  simp only[bJ,List.nil_append,qaF,decide_eq_true_eq]at hB
  rw[show 1+(([]:List Nat).length+(fs.length+1))=(fs.length+1)+1 by simp;omega]
  refine pY hB.1 (T:=fun a' w'=>wpList P ops (NoPanic Q) (bu ops (f0::fs)) a' w') (by funext e a w;cases e<;>rfl) h fun a' w' h'=> ?_
  exact ie (f0::fs) _ a' w' (fun _ h=>h) (by simp only[bJ,qaF,decide_eq_true_eq];exact hB.2) h'
 |m::ms,t0,listed,a,w,hB,h=>by
  rw[List.cons_append]at hB
  have hB1:Region.ready md ops listed=[t0]∧bJ md ops (m::(ms++f0::fs)) (listed.setIfInBounds t0 true)=true:=by
   rw[bJ,qaF,decide_eq_true_eq]at hB
   exact hB
  rw[show 1+((m::ms).length+(fs.length+1))=(1+(ms.length+(fs.length+1)))+1 by simp;omega]
  exact pY hB1.1 (T:=fun a' w'=>wpList P ops (vK P ops S Q (f0::fs) ms) (bu ops [m]) a' w') (by funext e a w;cases e<;>rfl) h fun a' w' h'=>nz ms m _ a' w' hB1.2 h'
theorem Pp {f0:Nat} {fs:List Nat}:∀(l:List Nat),cT md ops (l++f0::fs)=true→cT md ops (f0::fs)=true
 | [],h=>h
 | [x],h=>by
  simp only[List.cons_append,List.nil_append,cT,qaF]at h
  simpa only[cT]using h.2
 |x::y::l,h=>Pp (y::l) (by
  simp only[List.cons_append,cT,qaF]at h ⊢
  simpa only[cT]using h.2)
theorem ot {wi ci:List Nat} {t0 f0:Nat} {ms fs:List Nat} (hB:il md ops wi ci t0 (ms++f0::fs)=true) {S:World→Prop} {R:Nat→Value→World→Prop} {a0:Act} {w0:World}
  (hS:∀u:Ext w0,S u.val) (hst:∀i v w w',Below w.heap.size w w'→R i v w→R i v w')
  (hob:∀i∈ci,∀vals,gOp P md ops R w0 Q i vals (frm ops a0 vals (bw ops ci i)))
  (hfin:∀vals w',Below w0.heap.size w0 w'→(∀i∈ci,R i (vals i) w')→wpList P ops (vK P ops S Q (f0::fs) ms) (bu ops [t0]) (frm ops a0 vals (bw ops ci ops.size)) w'):
  ∀(f:Nat) (listed:Array Bool) (vals:Nat→Value) (w:World),Inv md ops (t0::(ms++f0::fs)) listed→(∀i∈wi,listed.getD i false=true)→(ci.filter fun i=> !listed.getD i false).length=f→Below w0.heap.size w0 w→
   (∀j,listed.getD j false=true→R j (vals j) w)→jX P md ops (NoPanic Q) S (f0::fs) (f+(1+(ms.length+(fs.length+1)))) listed (frm ops a0 vals listed) w:=by
 simp only[il,qaF,decide_eq_true_eq]at hB
 obtain⟨⟨⟨⟨⟨⟨⟨⟨⟨⟨⟨⟨⟨⟨hsel,hd⟩,hnd⟩,_⟩,htl⟩,hsz⟩,hs⟩,_⟩,_⟩,_⟩,hc⟩,hdis⟩,hcov⟩,hop⟩,hfo⟩:=hB
 have hit:∀i∈ci,i ∉ t0::(ms++f0::fs):=fun i hi=>by have:=alsi.1 hdis i hi;simpa using this
 have hcv:∀j,j<ops.size→j∈ci∨j∈t0::(ms++f0::fs):=fun j hj=>by have:=alsi.1 hcov j (List.mem_range.2 hj);simpa using this
 have hops:∀i∈ci,∃o,ops[i]? =some o∧(∀e∈o.after,Region.binds md e=true→e.on<i∧e.on∈ci)∧(∀j,j<ops.size→j∈t0::(ms++f0::fs)∨Region.waitsFor md ops i j=true∨∀d,aM ops j=some d→d ∉ o.looksAt ops):=fun i hi=>by
  have h:=alsi.1 hop i hi
  cases ho:ops[i]? with
  |none=>rw[ho]at h;cases h
  |some o=>
   rw[ho]at h
   simp only[qaF]at h
   obtain⟨he,hl⟩:=h
   refine⟨o,rfl,fun e hem hb=> ?_,fun j hj=> ?_⟩
   ·have:=Array.all_eq_true'.1 he e hem
    simpa [hb]using this
   ·have:=alsi.1 hl j (List.mem_range.2 hj)
    simp only[Bool.or_eq_true]at this
    rcases this with(h|h)|h
    ·exact .inl (by simpa using h)
    ·exact .inr (.inl h)
    ·refine .inr (.inr fun d hd hm=> ?_)
     rw[hd]at h
     simp[hm]at h
 intro f
 induction f with
 |zero=>
  intro listed vals w inv hwi hcnt hb hR
  have hall:∀i∈ci,listed.getD i false=true:=fun i hi=>by
   have:=List.filter_eq_nil_iff.1 (List.length_eq_zero_iff.1 hcnt) i hi
   simpa using this
  have hL:listed=bw ops ci ops.size:=by
   have hsz2:(bw ops ci ops.size).size=ops.size:=by simp[bw]
   apply Array.ext (by rw[inv.size,hsz2])
   intro j h1 h2
   have e1:listed[j]=listed.getD j false:=by simp[Array.getD,h1]
   have e2:(bw ops ci ops.size)[j]=(bw ops ci ops.size).getD j false:=by simp[Array.getD,h2]
   have hj:j<ops.size:=by rw[←inv.size];exact h1
   rw[e1,e2,bg]
   rcases hcv j hj with h|h
   ·rw[hall j h];simp[hj,h]
   ·rw[getD_both (inv.tail j h hj)]
    have:j ∉ ci:=fun hh=>hit j hh h
    simp[this]
  subst hL
  rw[Nat.zero_add]
  exact nz ms t0 _ _ w hfo (hfin vals w hb fun i hi=>hR i (hall i hi))
 |succ f ih=>
  intro listed vals w inv hwi hcnt hb hR
  have hlt:∀i∈ci,i<listed.size:=fun i hi=>by
   obtain⟨o,ho,_⟩:=hops i hi
   rw[inv.size];exact(alsl.1 ho).1
  have hun:∃i∈ci,listed.getD i true=false:=by
   cases hfl:(ci.filter fun i=> !listed.getD i false)with
   |nil=>rw[hfl]at hcnt;cases hcnt
   |cons i l=>
    have hi:i∈ci.filter fun i=> !listed.getD i false:=by rw[hfl];simp
    obtain⟨h1,h2⟩:=alsm.1 hi
    exact⟨i,h1,getD_in (hlt i h1) (by simpa using h2)⟩
  have hex:∀n i,i≤n→i∈ci→listed.getD i true=false→∃k,k∈Region.ready md ops listed:=by
   intro n
   induction n with
   |zero=>
    intro i hin hi hu
    obtain⟨o,ho,he,_⟩:=hops i hi
    exact⟨i,mem_ready.2 ⟨hu,o,ho,fun e hem hb=>by have:=(he e hem hb).1;omega⟩⟩
   |succ n ihn=>
    intro i hin hi hu
    obtain⟨o,ho,he,_⟩:=hops i hi
    by_cases hall:∀e∈o.after,Region.binds md e=true→listed.getD e.on false=true
    ·exact⟨i,mem_ready.2 ⟨hu,o,ho,hall⟩⟩
    ·simp only[Classical.not_forall]at hall
     obtain⟨e,hem,hb,hn⟩:=hall
     obtain⟨h1,h2⟩:=he e hem hb
     exact ihn e.on (by omega) h2 (getD_in (hlt _ h2) (by simpa using hn))
  obtain⟨i1,hi1,hu1⟩:=hun
  obtain⟨k,hk⟩:=hex i1 i1 (qaA _) hi1 hu1
  rw[show f+1+(1+(ms.length+(fs.length+1)))=(f+(1+(ms.length+(fs.length+1))))+1 by omega]
  refine⟨fun h0=>(by rw[h0]at hk;cases hk),fun i hi=> ?_⟩
  have htt:∀t∈t0::(ms++f0::fs),listed.getD t true=false:=fun t ht=>inv.tail t ht (by have:=alsi.1 htl t ht;simpa using this)
  have hnt:i ∉ t0::(ms++f0::fs):=fun h=>by
   rcases alsk.1 h with rfl|h
   ·exact dm inv _ hs ⟨i1,alsm.2 ⟨hi1,by
     have hnw:i1 ∉ wi:=fun hh=>by have:=hwi i1 hh;rw[getD_both hu1]at this;cases this
     simpa using hnw⟩,hu1⟩ hi
   ·exact Bd htt t0 (ms++f0::fs) (fun _ h=>h) hc i h hi
  obtain⟨hu,o,ho,hall⟩:=mem_ready.1 hi
  have hic:i∈ci:=by
   rcases hcv i (alsl.1 ho).1 with h|h
   ·exact h
   ·exact absurd h hnt
  obtain⟨o',ho',he,hlk⟩:=hops i hic
  obtain rfl:o=o':=Option.some.inj (ho.symm.trans ho')
  have hdep:∀j,Region.waitsFor md ops i j=true→listed.getD j false=true∧j<i∧j∈ci:=fun j hj=>by
   obtain⟨oj,hoj,e,hem,hb',hon⟩:=Region.waitsFor_spec hj
   obtain rfl:o=oj:=Option.some.inj (ho.symm.trans hoj)
   subst hon
   exact⟨hall e hem hb',he e hem hb'⟩
  obtain⟨o2,d,ho2,hdst,hds,hwp⟩:=hob i hic vals w hb (fun j hj=>hR j (hdep j hj).1)
  obtain rfl:o=o2:=Option.some.inj (ho.symm.trans ho2)
  have hag:∀d∈o.looksAt ops,∀j,aM ops j=some d→listed.getD j false=(bw ops ci i).getD j false:=(fun d hd j hj=>by
   have hjs:j<ops.size:=by
    rcases Nat.lt_or_ge j ops.size with h|h
    ·exact h
    ·unfold aM at hj;rw[Array.getElem?_eq_none h]at hj;cases hj
   rw[bg]
   rcases hlk j hjs with h|h|h
   ·rw[getD_both (htt j h)]
    have:j ∉ ci:=fun hh=>hit j hh h
    simp[this]
   ·obtain⟨h1,h2,h3⟩:=hdep j h
    rw[h1];simp[hjs,h2,h3]
   ·exact absurd hd (h d hj))
  have hex2:execOp (frm ops a0 vals listed).eval o=execOp (frm ops a0 vals (bw ops ci i)).eval o:=gA o (fun cs b=>Region.noSelect_spec hsel i o cs b ho) hag
  have hwn:=eC (a0:=a0) (vals:=vals) o hag
  have hdo:aM ops i=o.dst:=by simp[aM,ho]
  have key:∀v w'',Below w.heap.size w w''→R i v w''→(i ∉ f0::fs→S w'')∧jX P md ops (NoPanic Q) S (f0::fs) (f+(1+(ms.length+(fs.length+1)))) (listed.setIfInBounds i true) ((frm ops a0 vals listed).put o.dst v) w'':=fun v w'' hbw hRv=>by
   refine⟨fun _=>hS ⟨w'',fB hb hbw⟩, ?_⟩
   rw[←hdo,dU hd (hlt i hic)]
   refine ih _ _ w'' (inv.set hi hnt) (fun k hk=>by
    by_cases hki:i=k
    ·subst hki
     have:=hwi i hk
     rw[getD_both hu]at this;cases this
    ·rw[getD_set_ne false hki];exact hwi k hk) ?_ (fB hb hbw) (fun j hj=> ?_)
   ·have:=fy hnd hic hu
    omega
   ·by_cases hji:j=i
    ·subst hji;simpa [upd]using hRv
    ·rw[getD_set_ne false (fun h=>hji h.symm)]at hj
     simp only[upd,if_neg hji]
     exact hst j _ _ _ hbw (hR j hj)
  unfold wpOp
  simp only[ho]
  rw[hwn]
  split
  ·rename_i hw
   rw[if_pos hw]at hwp
   refine .inl (Oper.wp_mono ?_ (iB hex2 hdst hds hwp))
   rintro x w'' ⟨v,rfl,hbw,hRv⟩
   exact key v w'' hbw hRv
  ·rename_i hw
   rw[if_neg hw]at hwp
   exact key undef w (brf) hwp
def pZ (P:Program) (ops:Array Oper) (S:World→Prop) (R:Nat→Value→World→Prop):List Nat→Act→Prop
 | [],_=>True
 |i::l,a=>∃o v,ops[i]? =some o∧YieldsIf P ops S o v a∧R i=IsV v∧pZ P ops S R l (a.put o.dst v)
theorem gR {S:World→Prop} {R:Nat→Value→World→Prop} {a:Act}:pZ P ops S R [] a:=trivial
theorem du {S:World→Prop} {R:Nat→Value→World→Prop} {i:Nat} {l:List Nat} {a:Act} {o:Oper} (ho:ops[i]? =some o) (hg:o.guard=none)
  (h:∃v,(∀w,S w→(execOp a.eval o).run P w= .ok (.value v) w)∧R i=IsV v∧pZ P ops S R l (a.put o.dst v)):pZ P ops S R (i::l) a:=by
 obtain⟨v,h1,h2,h3⟩:=h
 exact⟨o,v,ho, .inl ⟨by unfold Region.wanted;rw[hg],h1⟩,h2,h3⟩
theorem nA {wi cs:List Nat} {f0:Nat} {fs:List Nat} (hsel:Region.noSelect ops=true) (hd:gZ ops=true) {S:World→Prop} {R:Nat→Value→World→Prop} {a0:Act} {w:World} {g:Nat}
  (hB2:fQ md ops f0 cs=true) (hc:cT md ops (f0::fs)=true) (hwc:∀i∈wi,i∈cs) (hit:∀i∈wi,i ∉ f0::fs) (hSw:S w)
  (hK:∀listed vals,Inv md ops (f0::fs) listed→(∀i,listed.getD i false=true↔i∈wi)→(∀j,listed.getD j false=true→R j (vals j) w)→jX P md ops (NoPanic Q) S (f0::fs) g listed (frm ops a0 vals listed) w):
  ∀(l pre:List Nat) (listed:Array Bool) (vals:Nat→Value),wi=pre++l→(∀i,listed.getD i false=true↔i∈pre)→Inv md ops (f0::fs) listed→(∀j,listed.getD j false=true→R j (vals j) w)→
   pr md ops (fun _=>true) l listed=true→pZ P ops S R l (frm ops a0 vals listed)→jX P md ops (NoPanic Q) S (f0::fs) (l.length+g) listed (frm ops a0 vals listed) w
 | [],pre,listed,vals,he,hl,inv,hR,_,_=>by
  rw[List.append_nil]at he
  subst he
  simpa using hK listed vals inv hl hR
 |i::l,pre,listed,vals,he,hl,inv,hR,hB,h=>by
  simp only[pr,qaF]at hB
  obtain⟨⟨hr,hf⟩,hB'⟩:=hB
  have hr':i∈Region.ready md ops listed:=by simpa using hr
  obtain⟨hu,oi,hoi,_⟩:=mem_ready.1 hr'
  obtain⟨o,v,ho,hy,hRv,h'⟩:=h
  obtain rfl:oi=o:=Option.some.inj (hoi.symm.trans ho)
  have hdo:aM ops i=oi.dst:=by simp[aM,ho]
  have hlt:i<listed.size:=by rw[inv.size];exact(alsl.1 ho).1
  have hiw:i∈wi:=by rw[he];simp
  have hset:(listed.setIfInBounds i true).getD i false=true:=by simp[Array.getD,hlt]
  rw[show(i::l).length+g=(l.length+g)+1 by simp;omega]
  refine lQ hoi (Region.noSelect_spec hsel) (fun c a w h=>h) cs hB2 hc (hwc i hiw) _ listed _ w inv (Region.free_spec hoi hf) hr' hy hSw ?_
  rw[←hdo,dU hd hlt]at h' ⊢
  refine nA hsel hd hB2 hc hwc hit hSw hK l (pre++[i]) _ _ (by rw[he];simp) (fun k=> ?_) (inv.set hr' (hit i hiw)) (fun j hj=> ?_) hB' h'
  ·by_cases hki:k=i
   ·subst hki;rw[hset];simp
   ·rw[getD_set_ne false (fun h=>hki h.symm),hl k];simp[hki]
  ·by_cases hji:j=i
   ·subst hji;rw[hRv];simp[upd,IsV]
   ·rw[getD_set_ne false (fun h=>hji h.symm)]at hj
    simp only[upd,if_neg hji]
    exact hR j hj
theorem Ae {R:Nat→Value→World→Prop} {w0:World} {F:(Nat→Value)→Act→Prop} {i:Nat} {l:List Nat} {vals:Nat→Value} {a:Act} {o:Oper} {d:Nat} (ho:ops[i]? =some o) (hd:o.dst=some d) (hlt:d<a.tmps.size) (hg:Region.wanted o (yielded ops a.tmps)=true)
  (h:∃c,(∀(u:Ext w0) (K:Act→World→Prop),(∀w'',Below u.val.heap.size u.val w''→K (a.put (some d) c) w'')→o.wp P a u.val K (NoPanic Q))∧R i=IsV c∧wpK P md ops R w0 Q [] F l (upd vals i c) (a.put (some d) c)):wpK P md ops R w0 Q [] F (i::l) vals a:=by
 obtain⟨c,h1,h2,h3⟩:=h
 have e:aM ops i=some d:=by simp[aM,ho,hd]
 refine⟨fun w' hb _=> ?_, .inl ⟨c,fun v w hv=>by rw[h2]at hv;exact hv,by rw[e];exact h3⟩⟩
 rw[if_neg (by simp)]
 refine⟨o,d,ho,hd,hlt, ?_⟩
 rw[if_pos hg]
 exact h1 ⟨w',hb⟩ _ fun w'' hb'=>⟨c,by rw[hd],hb',by rw[h2];rfl⟩
theorem Af {R:Nat→Value→World→Prop} {w0:World} {F:(Nat→Value)→Act→Prop} {i:Nat} {l:List Nat} {vals:Nat→Value} {a:Act} {o:Oper} {d:Nat} (ho:ops[i]? =some o) (hd:o.dst=some d) (hlt:d<a.tmps.size) (hg:Region.wanted o (yielded ops a.tmps)=true)
  (h1:∀u:Ext w0,(∀j,Region.waitsFor md ops i j=true→R j (vals j) u.val)→
   ∀K:Act→World→Prop,(∀v w'',Below u.val.heap.size u.val w''→R i v w''→K (a.put (some d) v) w'')→o.wp P a u.val K (NoPanic Q))
  (h2:∀v,wpK P md ops R w0 Q [] F l (upd vals i v) (a.put (some d) v)):wpK P md ops R w0 Q [] F (i::l) vals a:=by
 have e:aM ops i=some d:=by simp[aM,ho,hd]
 refine⟨fun w' hb hR=> ?_, .inr fun v=>by rw[e];exact h2 v⟩
 rw[if_neg (by simp)]
 refine⟨o,d,ho,hd,hlt, ?_⟩
 rw[if_pos hg]
 exact h1 ⟨w',hb⟩ hR _ fun v w'' hb' hr=>⟨v,by rw[hd],hb',hr⟩
theorem bW {id:Nat} {a:Act} {w:World} {l:List Oper} (wi ci:List Nat) (t0:Nat) (ms:List Nat) (f0:Nat) (fs:List Nat) (R:List SP) (S:World→Prop) (hm:P.follows .mixedOrders=true) (hB:il .any l.toArray wi ci t0 (ms++f0::fs)=true)
  (hB2:fQ .any l.toArray f0 (ci++t0::ms)=true)
  (hS:∀u:Ext w,S u.val) (hz:pZ P l.toArray S (xm R) wi a)
  (h:wpK P .any l.toArray (xm R) w Q [] (fun vals a'=>∀u:Ext w,(∀i∈ci,xm R i (vals i) u.val)→wpList P l.toArray (vK P l.toArray S Q (f0::fs) ms) (bu l.toArray [t0]) a' u.val) ci (fun _=>undef) a):
  (Code.region id l.toArray true).wp P Q a w:=by
 refine wp_region_noPanic (wp_region_any hm ?_)
 have hst:∀i v w w',Below w.heap.size w w'→xm R i v w→xm R i v w':=fun i v w w' hb h=>(R.getD i (sv undef)).2 v w w' hb h
 have hB':=hB
 simp only[il,qaF,decide_eq_true_eq]at hB
 obtain⟨⟨⟨⟨⟨⟨⟨⟨⟨⟨⟨⟨⟨⟨hsel,hd⟩,hnd⟩,hpw⟩,htl⟩,hsz⟩,hs⟩,hwc⟩,hwn⟩,hfr⟩,hc⟩,hdis⟩,hcov⟩,hop⟩,hfo⟩:=hB
 have hlt:∀i∈ci,i<l.toArray.size:=fun i hi=>by
  have h:=alsi.1 hop i hi
  rcases Nat.lt_or_ge i l.toArray.size with h'|h'
  ·exact h'
  ·rw[Array.getElem?_eq_none h']at h;cases h
 have hdep:∀i∈ci,∀j,Region.waitsFor .any l.toArray i j=true→j<i∧j∈ci:=fun i hi j hj=>by
  have h:=alsi.1 hop i hi
  obtain⟨o,ho,e,hem,hb,rfl⟩:=Region.waitsFor_spec hj
  rw[ho]at h
  simp only[qaF]at h
  have:=Array.all_eq_true'.1 h.1 e hem
  simpa [hb]using this
 have hlk:∀i∈ci,∀o,l.toArray[i]? =some o→∀j∈ci,Region.waitsFor .any l.toArray i j=true∨∀d,aM l.toArray j=some d→d ∉ o.looksAt l.toArray:=fun i hi o ho j hj=>by
  have h:=alsi.1 hop i hi
  rw[ho]at h
  simp only[qaF]at h
  have h2:=alsi.1 h.2 j (List.mem_range.2 (hlt j hj))
  have hnt:j ∉ t0::(ms++f0::fs):=by have:=alsi.1 hdis j hj;simpa using this
  simp only[Bool.or_eq_true]at h2
  rcases h2 with(h3|h3)|h3
  ·exact absurd (by simpa using h3) hnt
  ·exact .inl h3
  ·refine .inr fun d hd hm=> ?_
   rw[hd]at h3
   simp[hm]at h3
 have hnil:∀j,(bw l.toArray [] l.toArray.size).getD j false=false:=fun j=>by rw[bg];simp
 have hobs:=gK (P:=P) (md:= .any) (Q:=Q) (zi:=[]) (R:=xm R) (a0:=a) (w0:=w) hsel hd hpw hlt hdep hlk ci [] (fun _=>undef) rfl (by rw[dD hnil];exact h)
 have hrep:∀j,(Array.replicate l.toArray.size false).getD j false=false:=fun j=>getD_replicate_false _ _
 have hwc':∀i∈wi,i∈ci:=fun i hi=>by have:=alsi.1 hwc i hi;simpa using this
 have hcf:cT .any l.toArray (f0::fs)=true:=Pp (t0::ms) hc
 have hit:∀i∈wi,i ∉ t0::(ms++f0::fs):=fun i hi=>by have:=alsi.1 hdis i (hwc' i hi);simpa using this
 have hgo:=ot (P:=P) (Q:=Q) hB' (a0:=a) (w0:=w) hS hst (fun i hi vals=>by
   have h1:=hobs.1 i hi vals (by simp)
   intro w' hb hR
   have h2:=h1 w' hb hR
   simpa using h2) (fun vals w' hb hR=>by
   obtain⟨vals1,h1,h2⟩:=hobs.2 vals (by simp) (fun j hj=>⟨w',hR j hj⟩)
   rw[dO (vals:=vals) (vals':=vals1) (fun j hj=>h1 j (by rw[bg]at hj;simp at hj;exact hj.2))]
   exact h2 ⟨w',hb⟩ (fun i hi=>by rw[←h1 i hi];exact hR i hi))
 have hb0:Below w.heap.size w {w with drawn:=w.drawn+1}:=⟨rfl,rfl,rfl,qaA _,fun _ _=>rfl⟩
 have htl':∀t∈t0::(ms++f0::fs),t<l.toArray.size:=fun t ht=>by have:=alsi.1 htl t ht;simpa using this
 have:=nA (P:=P) (md:= .any) (Q:=Q) (wi:=wi) (cs:=ci++t0::ms) (f0:=f0) (fs:=fs) (S:=S) (R:=xm R) (a0:=a) (w:={w with drawn:=w.drawn+1}) (g:=(ci.length-wi.length)+(1+(ms.length+(fs.length+1)))) hsel hd hB2 hcf (fun i hi=>List.mem_append_left _ (hwc' i hi)) (fun i hi h=>hit i hi (List.mem_cons_of_mem _ (List.mem_append_right _ h))) (hS ⟨_,hb0⟩)
  (fun listed vals inv hl hR=>hgo (ci.length-wi.length) listed vals _ ⟨inv.closed,fun t ht hts=>by
    refine getD_in (by rw[inv.size];exact hts) ?_
    cases hx:listed.getD t false with
    |false=>rfl
    |true=>exact absurd ht (hit t ((hl t).1 hx)),inv.size⟩ (fun i hi=>(hl i).2 hi) (by have:=pT hnd hwn hwc' hl;omega) hb0 hR)
  wi [] (Array.replicate l.toArray.size false) (fun _=>undef) rfl (fun i=>by rw[hrep];simp) ⟨fun j oj _ hl=>(by rw[hrep]at hl;cases hl),fun t _ ht=>getD_in (by simpa using ht) (getD_replicate_false _ _),by simp⟩
  (fun j hj=>by rw[hrep]at hj;cases hj) hfr (by rw[dD hrep];exact hz)
 rw[dD hrep]at this
 have hle:wi.length≤ci.length:=by
  have h2:(ci.filter fun i=>wi.contains i).length=wi.length:=by
   refine List.Perm.length_eq ((List.perm_ext_iff_of_nodup (hnd.filter _) hwn).2 fun x=> ?_)
   rw[alsm]
   exact⟨fun h=>by simpa using h.2,fun h=>⟨hwc' x h,by simpa using h⟩⟩
  have:=List.length_filter_le (fun i=>wi.contains i) ci
  omega
 have h9:=zj _ _ _ _ this
 simp only[qaE,List.length_cons]at hsz
 rw[show wi.length+(ci.length-wi.length+(1+(ms.length+(fs.length+1))))=l.toArray.size by omega]at h9
 exact h9
end
end
end Go.Proofs.YtnpmkepfpekhfaaGreatDoor
