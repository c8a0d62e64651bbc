/- texts: G5. -/
import Derived.Test.YtokhkhnofkcalaaGreatDoorKZS9
namespace Go.Proofs.YtokhkhnofkcalaaGreatDoor
set_option maxHeartbeats 8000000
set_option linter.unusedSimpArgs false
set_option linter.unusedVariables false
section
open Go.RowKit
section
variable {P:Program} {ops:Array Oper} {md:Region.Mode} {Q:Exit→Act→World→Prop}
def il (md:Region.Mode) (ops:Array Oper) (wi ci:List Nat) (t0:Nat) (ts:List Nat):Bool:=
 Region.noSelect ops&&gZ ops&&decide ci.Nodup&&decide (ci.Pairwise (· < ·))&&((t0::ts).all fun t=>decide (t<ops.size))&&decide (ci.length+(ts.length+1)=ops.size)&&fQ md ops t0 (ci.filter fun i=> !wi.contains i)&&(wi.all fun i=>ci.contains i)&&decide wi.Nodup&&ev md ops (fun _=>true) wi (Array.replicate ops.size false)&&cT md ops (t0::ts)&&
 (ci.all fun i=> !(t0::ts).contains i)&&((List.range ops.size).all fun j=>ci.contains j || (t0::ts).contains j)&&
 (ci.all fun i=>match ops[i]? with
  |some o=>(o.after.all fun e=> !Region.binds md e || (decide (e.on<i)&&ci.contains e.on))&&
    ((List.range ops.size).all fun j=>(t0::ts).contains j || Region.waitsFor md ops i j || !((aM ops j).any fun d=>(o.looksAt ops).contains d))
  |none=>false)&&
 bJ md ops (t0::ts) (bw ops ci ops.size)
def tD (P:Program) (ops:Array Oper) (R:Nat→Value→World→Prop):List Nat→Act→Prop
 | [],_=>True
 |i::l,a=>∃o v,ops[i]? =some o∧Yields P ops o v a∧(∀w,R i v w)∧tD P ops R l (a.put o.dst v)
theorem eH {R:Nat→Value→World→Prop} {i:Nat} {o:Oper} {l:List Nat} {a:Act} (ho:ops[i]? =some o)
  (h:∀K':Value→Act→Prop,(∀v a,(∀w,R i v w)→tD P ops R l a→K' v a)→Region.wanted o (yielded ops a.tmps)=true∧∃v,(∀w,(execOp a.eval o).run P w= .ok (.value v) w)∧K' v (a.put o.dst v)):tD P ops R (i::l) a:=by
 obtain⟨hw,v,hv,hk⟩:=h (fun v a=>(∀w,R i v w)∧tD P ops R l a) (fun v a h1 h2=>⟨h1,h2⟩)
 exact⟨o,v,ho, .inl ⟨hw,hv⟩,hk.1,hk.2⟩
theorem ol {wi ci:List Nat} {t0:Nat} {ts:List Nat} (hB:il md ops wi ci t0 ts=true) {R:Nat→Value→World→Prop} {a0:Act} {w0:World}
  (hst:∀i v w w',Below w.heap.size w w'→R i v w→R i v w')
  (hob:∀i∈ci,∀vals,gOp P md ops R w0 Q i vals (frm ops a0 vals (bw ops ci i)))
  (hfin:∀vals w',Below w0.heap.size w0 w'→(∀i∈ci,R i (vals i) w')→wpList P ops (NoPanic Q) (bu ops (t0::ts)) (frm ops a0 vals (bw ops ci ops.size)) w'):
  ∀(f:Nat) (listed:Array Bool) (vals:Nat→Value) (w:World),Inv md ops (t0::ts) listed→(∀i∈wi,listed.getD i false=true)→(ci.filter fun i=> !listed.getD i false).length=f→Below w0.heap.size w0 w→
   (∀j,listed.getD j false=true→R j (vals j) w)→wpAny P md ops (NoPanic Q) (f+(ts.length+1)) listed (frm ops a0 vals listed) w:=by
 simp only[il,Bool.and_eq_true,decide_eq_true_eq]at hB
 obtain⟨⟨⟨⟨⟨⟨⟨⟨⟨⟨⟨⟨⟨⟨hsel,hd⟩,hnd⟩,_⟩,htl⟩,hsz⟩,hs⟩,_⟩,_⟩,_⟩,hc⟩,hdis⟩,hcov⟩,hop⟩,hfo⟩:=hB
 have hit:∀i∈ci,i ∉ t0::ts:=fun i hi=>by have:=List.all_eq_true.1 hdis i hi;simpa using this
 have hcv:∀j,j<ops.size→j∈ci∨j∈t0::ts:=fun j hj=>by have:=List.all_eq_true.1 hcov j (List.mem_range.2 hj);simpa using this
 have hops:∀i∈ci,∃o,ops[i]? =some o∧(∀e∈o.after,Region.binds md e=true→e.on<i∧e.on∈ci)∧(∀j,j<ops.size→j∈t0::ts∨Region.waitsFor md ops i j=true∨∀d,aM ops j=some d→d ∉ o.looksAt ops):=fun i hi=>by
  have h:=List.all_eq_true.1 hop i hi
  cases ho:ops[i]? with
  |none=>rw[ho]at h;cases h
  |some o=>
   rw[ho]at h
   simp only[Bool.and_eq_true]at h
   obtain⟨he,hl⟩:=h
   refine⟨o,rfl,fun e hem hb=> ?_,fun j hj=> ?_⟩
   ·have:=Array.all_eq_true'.1 he e hem
    simpa [hb]using this
   ·have:=List.all_eq_true.1 hl j (List.mem_range.2 hj)
    simp only[Bool.or_eq_true]at this
    rcases this with(h|h)|h
    ·exact .inl (by simpa using h)
    ·exact .inr (.inl h)
    ·refine .inr (.inr fun d hd hm=> ?_)
     rw[hd]at h
     simp[hm]at h
 intro f
 induction f with
 |zero=>
  intro listed vals w inv hwi hcnt hb hR
  have hall:∀i∈ci,listed.getD i false=true:=fun i hi=>by
   have:=List.filter_eq_nil_iff.1 (List.length_eq_zero_iff.1 hcnt) i hi
   simpa using this
  have hL:listed=bw ops ci ops.size:=by
   have hsz2:(bw ops ci ops.size).size=ops.size:=by simp[bw]
   apply Array.ext (by rw[inv.size,hsz2])
   intro j h1 h2
   have e1:listed[j]=listed.getD j false:=by simp[Array.getD,h1]
   have e2:(bw ops ci ops.size)[j]=(bw ops ci ops.size).getD j false:=by simp[Array.getD,h2]
   have hj:j<ops.size:=by rw[←inv.size];exact h1
   rw[e1,e2,bg]
   rcases hcv j hj with h|h
   ·rw[hall j h];simp[hj,h]
   ·rw[getD_both (inv.tail j h hj)]
    have:j ∉ ci:=fun hh=>hit j hh h
    simp[this]
  rw[Nat.zero_add]
  subst hL
  exact dg (t0::ts) _ _ w hfo (hfin vals w hb fun i hi=>hR i (hall i hi))
 |succ f ih=>
  intro listed vals w inv hwi hcnt hb hR
  have hlt:∀i∈ci,i<listed.size:=fun i hi=>by
   obtain⟨o,ho,_⟩:=hops i hi
   rw[inv.size];exact(Array.getElem?_eq_some_iff.1 ho).1
  have hun:∃i∈ci,listed.getD i true=false:=by
   cases hfl:(ci.filter fun i=> !listed.getD i false)with
   |nil=>rw[hfl]at hcnt;cases hcnt
   |cons i l=>
    have hi:i∈ci.filter fun i=> !listed.getD i false:=by rw[hfl];simp
    obtain⟨h1,h2⟩:=List.mem_filter.1 hi
    exact⟨i,h1,getD_in (hlt i h1) (by simpa using h2)⟩
  have hex:∀n i,i≤n→i∈ci→listed.getD i true=false→∃k,k∈Region.ready md ops listed:=by
   intro n
   induction n with
   |zero=>
    intro i hin hi hu
    obtain⟨o,ho,he,_⟩:=hops i hi
    exact⟨i,mem_ready.2 ⟨hu,o,ho,fun e hem hb=>by have:=(he e hem hb).1;omega⟩⟩
   |succ n ihn=>
    intro i hin hi hu
    obtain⟨o,ho,he,_⟩:=hops i hi
    by_cases hall:∀e∈o.after,Region.binds md e=true→listed.getD e.on false=true
    ·exact⟨i,mem_ready.2 ⟨hu,o,ho,hall⟩⟩
    ·simp only[Classical.not_forall]at hall
     obtain⟨e,hem,hb,hn⟩:=hall
     obtain⟨h1,h2⟩:=he e hem hb
     exact ihn e.on (by omega) h2 (getD_in (hlt _ h2) (by simpa using hn))
  obtain⟨i1,hi1,hu1⟩:=hun
  obtain⟨k,hk⟩:=hex i1 i1 (Nat.le_refl _) hi1 hu1
  rw[show f+1+(ts.length+1)=(f+(ts.length+1))+1 by omega]
  refine⟨fun h0=>(by rw[h0]at hk;cases hk),fun i hi=> ?_⟩
  have htt:∀t∈t0::ts,listed.getD t true=false:=fun t ht=>inv.tail t ht (by have:=List.all_eq_true.1 htl t ht;simpa using this)
  have hnt:i ∉ t0::ts:=fun h=>by
   rcases List.mem_cons.1 h with rfl|h
   ·exact dm inv _ hs ⟨i1,List.mem_filter.2 ⟨hi1,by
     have hnw:i1 ∉ wi:=fun hh=>by have:=hwi i1 hh;rw[getD_both hu1]at this;cases this
     simpa using hnw⟩,hu1⟩ hi
   ·exact Bd htt t0 ts (fun _ h=>h) hc i h hi
  obtain⟨hu,o,ho,hall⟩:=mem_ready.1 hi
  have hic:i∈ci:=by
   rcases hcv i (Array.getElem?_eq_some_iff.1 ho).1 with h|h
   ·exact h
   ·exact absurd h hnt
  obtain⟨o',ho',he,hlk⟩:=hops i hic
  obtain rfl:o=o':=Option.some.inj (ho.symm.trans ho')
  have hdep:∀j,Region.waitsFor md ops i j=true→listed.getD j false=true∧j<i∧j∈ci:=fun j hj=>by
   obtain⟨oj,hoj,e,hem,hb',hon⟩:=Region.waitsFor_spec hj
   obtain rfl:o=oj:=Option.some.inj (ho.symm.trans hoj)
   subst hon
   exact⟨hall e hem hb',he e hem hb'⟩
  obtain⟨o2,d,ho2,hdst,hds,hwp⟩:=hob i hic vals w hb (fun j hj=>hR j (hdep j hj).1)
  obtain rfl:o=o2:=Option.some.inj (ho.symm.trans ho2)
  have hag:∀d∈o.looksAt ops,∀j,aM ops j=some d→listed.getD j false=(bw ops ci i).getD j false:=(fun d hd j hj=>by
   have hjs:j<ops.size:=by
    rcases Nat.lt_or_ge j ops.size with h|h
    ·exact h
    ·unfold aM at hj;rw[Array.getElem?_eq_none h]at hj;cases hj
   rw[bg]
   rcases hlk j hjs with h|h|h
   ·rw[getD_both (htt j h)]
    have:j ∉ ci:=fun hh=>hit j hh h
    simp[this]
   ·obtain⟨h1,h2,h3⟩:=hdep j h
    rw[h1];simp[hjs,h2,h3]
   ·exact absurd hd (h d hj))
  have hex2:execOp (frm ops a0 vals listed).eval o=execOp (frm ops a0 vals (bw ops ci i)).eval o:=gA o (fun cs b=>Region.noSelect_spec hsel i o cs b ho) hag
  have hwn:=eC (a0:=a0) (vals:=vals) o hag
  have hdo:aM ops i=o.dst:=by simp[aM,ho]
  have key:∀v w'',Below w.heap.size w w''→R i v w''→wpAny P md ops (NoPanic Q) (f+(ts.length+1)) (listed.setIfInBounds i true) ((frm ops a0 vals listed).put o.dst v) w'':=fun v w'' hbw hRv=>by
   rw[←hdo,dU hd (hlt i hic)]
   refine ih _ _ w'' (inv.set hi hnt) (fun k hk=>by
    by_cases hki:i=k
    ·subst hki
     have:=hwi i hk
     rw[getD_both hu]at this;cases this
    ·rw[getD_set_ne false hki];exact hwi k hk) ?_ (ae hb hbw) (fun j hj=> ?_)
   ·have:=fy hnd hic hu
    omega
   ·by_cases hji:j=i
    ·subst hji;simpa [upd]using hRv
    ·rw[getD_set_ne false (fun h=>hji h.symm)]at hj
     simp only[upd,if_neg hji]
     exact hst j _ _ _ hbw (hR j hj)
  unfold wpOp
  simp only[ho]
  rw[hwn]
  split
  ·rename_i hw
   rw[if_pos hw]at hwp
   refine .inl (Oper.wp_mono ?_ (iB hex2 hdst hds hwp))
   rintro x w'' ⟨v,rfl,hbw,hRv⟩
   exact key v w'' hbw hRv
  ·rename_i hw
   rw[if_neg hw]at hwp
   exact key undef w (Below.refl _ _) hwp
theorem nx {wi:List Nat} {t0:Nat} {ts:List Nat} (hsel:Region.noSelect ops=true) (hd:gZ ops=true) (hQ:∀c a w,¬Q (.panic c) a w) {R:Nat→Value→World→Prop} {a0:Act} {w:World} {g:Nat}
  (hit:∀i∈wi,i ∉ t0::ts)
  (hK:∀listed vals,Inv md ops (t0::ts) listed→(∀i,listed.getD i false=true↔i∈wi)→(∀j,listed.getD j false=true→R j (vals j) w)→wpAny P md ops Q g listed (frm ops a0 vals listed) w):
  ∀(l pre:List Nat) (listed:Array Bool) (vals:Nat→Value),wi=pre++l→(∀i,listed.getD i false=true↔i∈pre)→Inv md ops (t0::ts) listed→(∀j,listed.getD j false=true→R j (vals j) w)→
   ev md ops (fun _=>true) l listed=true→tD P ops R l (frm ops a0 vals listed)→wpAny P md ops Q (l.length+g) listed (frm ops a0 vals listed) w
 | [],pre,listed,vals,he,hl,inv,hR,_,_=>by
  rw[List.append_nil]at he
  subst he
  simpa using hK listed vals inv hl hR
 |i::l,pre,listed,vals,he,hl,inv,hR,hB,h=>by
  simp only[ev,Bool.and_eq_true]at hB
  obtain⟨⟨hr,hf⟩,hB'⟩:=hB
  have hr':i∈Region.ready md ops listed:=by simpa using hr
  obtain⟨hu,oi,hoi,_⟩:=mem_ready.1 hr'
  obtain⟨o,v,ho,hy,hRv,h'⟩:=h
  obtain rfl:oi=o:=Option.some.inj (hoi.symm.trans ho)
  have hdo:aM ops i=oi.dst:=by simp[aM,ho]
  have hlt:i<listed.size:=by rw[inv.size];exact(Array.getElem?_eq_some_iff.1 ho).1
  have hitt:i ∉ t0::ts:=hit i (by rw[he];simp)
  have hset:(listed.setIfInBounds i true).getD i false=true:=by simp[Array.getD,hlt]
  rw[show(i::l).length+g=(l.length+g)+1 by simp;omega]
  refine wpAny_first hoi (Region.noSelect_spec hsel) (fun c a w h=>absurd h (hQ c _ w)) _ listed _ w (Region.free_spec hoi hf) hr' hy ?_
  rw[←hdo,dU hd hlt]at h' ⊢
  refine nx hsel hd hQ hit hK l (pre++[i]) _ _ (by rw[he];simp) (fun k=> ?_) (inv.set hr' hitt) (fun j hj=> ?_) hB' h'
  ·by_cases hki:k=i
   ·subst hki;rw[hset];simp
   ·rw[getD_set_ne false (fun h=>hki h.symm),hl k];simp[hki]
  ·by_cases hji:j=i
   ·subst hji;simpa [upd]using hRv w
   ·rw[getD_set_ne false (fun h=>hji h.symm)]at hj
    simp only[upd,if_neg hji]
    exact hR j hj
theorem pT {wi ci:List Nat} (hn:ci.Nodup) (hw:wi.Nodup) (hs:∀i∈wi,i∈ci) {listed:Array Bool} (hl:∀i,listed.getD i false=true↔i∈wi):(ci.filter fun i=> !listed.getD i false).length+wi.length=ci.length:=by
 have h1:(ci.filter fun i=>listed.getD i false).length=wi.length:=by
  refine List.Perm.length_eq ((List.perm_ext_iff_of_nodup (hn.filter _) hw).2 fun x=> ?_)
  rw[List.mem_filter,hl x]
  exact⟨fun h=>h.2,fun h=>⟨hs x h,h⟩⟩
 have h2:∀l:List Nat,(l.filter fun i=> !listed.getD i false).length+(l.filter fun i=>listed.getD i false).length=l.length:=by
  intro l
  induction l with
  |nil=>rfl
  |cons x l ih=>
   rw[List.filter_cons,List.filter_cons]
   generalize(listed.getD x false)=b
   cases b<;>simp only[Bool.not_false,Bool.not_true,if_true,Bool.false_eq_true,if_false,List.length_cons]<;>omega
 have:=h2 ci
 omega
theorem cO {id:Nat} {a:Act} {w:World} {l:List Oper} (wi ci:List Nat) (t0:Nat) (ts:List Nat) (R:Nat→Value→World→Prop) (hm:P.follows .mixedOrders=true) (hB:il .any l.toArray wi ci t0 ts=true)
  (hst:∀i v w w',Below w.heap.size w w'→R i v w→R i v w')
  (hwr:tD P l.toArray R wi a)
  (h:wpG P .any l.toArray R w Q (fun vals a'=>∀w',Below w.heap.size w w'→(∀i∈ci,R i (vals i) w')→wpList P l.toArray (NoPanic Q) (bu l.toArray (t0::ts)) a' w') ci (fun _=>undef) a):
  (Code.region id l.toArray true).wp P Q a w:=by
 refine wp_region_noPanic (wp_region_any hm ?_)
 have hB':=hB
 simp only[il,Bool.and_eq_true,decide_eq_true_eq]at hB
 obtain⟨⟨⟨⟨⟨⟨⟨⟨⟨⟨⟨⟨⟨⟨hsel,hd⟩,hnd⟩,hpw⟩,htl⟩,hsz⟩,hs⟩,hwc⟩,hwn⟩,hfr⟩,hc⟩,hdis⟩,hcov⟩,hop⟩,hfo⟩:=hB
 have hlt:∀i∈ci,i<l.toArray.size:=fun i hi=>by
  have h:=List.all_eq_true.1 hop i hi
  rcases Nat.lt_or_ge i l.toArray.size with h'|h'
  ·exact h'
  ·rw[Array.getElem?_eq_none h']at h;cases h
 have hdep:∀i∈ci,∀j,Region.waitsFor .any l.toArray i j=true→j<i∧j∈ci:=fun i hi j hj=>by
  have h:=List.all_eq_true.1 hop i hi
  obtain⟨o,ho,e,hem,hb,rfl⟩:=Region.waitsFor_spec hj
  rw[ho]at h
  simp only[Bool.and_eq_true]at h
  have:=Array.all_eq_true'.1 h.1 e hem
  simpa [hb]using this
 have hnil:∀j,(bw l.toArray [] l.toArray.size).getD j false=false:=fun j=>by rw[bg];simp
 have hobs:=iW (P:=P) (md:= .any) (Q:=Q) (R:=R) (a0:=a) (w0:=w) hd hpw hlt hdep ci [] (fun _=>undef) rfl (by rw[dD hnil];exact h)
 have hrep:∀j,(Array.replicate l.toArray.size false).getD j false=false:=fun j=>getD_replicate_false _ _
 have hwc':∀i∈wi,i∈ci:=fun i hi=>by have:=List.all_eq_true.1 hwc i hi;simpa using this
 have hit:∀i∈wi,i ∉ t0::ts:=fun i hi=>by have:=List.all_eq_true.1 hdis i (hwc' i hi);simpa using this
 have hgo:=ol (P:=P) (Q:=Q) hB' (a0:=a) (w0:=w) hst (fun i hi vals=>hobs.1 i hi vals (by simp)) (fun vals w' hb hR=>by
   obtain⟨vals1,h1,h2⟩:=hobs.2 vals (by simp)
   rw[dO (vals:=vals) (vals':=vals1) (fun j hj=>h1 j (by rw[bg]at hj;simp at hj;exact hj.2))]
   exact h2 w' hb (fun i hi=>by rw[←h1 i hi];exact hR i hi))
 have hb0:Below w.heap.size w {w with drawn:=w.drawn+1}:=⟨rfl,rfl,rfl,Nat.le_refl _,fun _ _=>rfl⟩
 have:=nx (P:=P) (md:= .any) (Q:=NoPanic Q) (wi:=wi) (t0:=t0) (ts:=ts) (R:=R) (a0:=a) (w:={w with drawn:=w.drawn+1}) (g:=(ci.length-wi.length)+(ts.length+1)) hsel hd (fun c a w h=>h) hit
  (fun listed vals inv hl hR=>hgo (ci.length-wi.length) listed vals _ inv (fun i hi=>(hl i).2 hi) (by have:=pT hnd hwn hwc' hl;omega) hb0 hR)
  wi [] (Array.replicate l.toArray.size false) (fun _=>undef) rfl (fun i=>by rw[hrep];simp) ⟨fun j oj _ hl=>(by rw[hrep]at hl;cases hl),fun t _ ht=>getD_in (by simpa using ht) (getD_replicate_false _ _),by simp⟩
  (fun j hj=>by rw[hrep]at hj;cases hj) hfr (by rw[dD hrep];exact hwr)
 rw[dD hrep]at this
 have hle:wi.length≤ci.length:=by
  have h1:=(List.nodup_iff_count.1 hwn)
  have h2:(ci.filter fun i=>wi.contains i).length=wi.length:=by
   refine List.Perm.length_eq ((List.perm_ext_iff_of_nodup (hnd.filter _) hwn).2 fun x=> ?_)
   rw[List.mem_filter]
   exact⟨fun h=>by simpa using h.2,fun h=>⟨hwc' x h,by simpa using h⟩⟩
  have:=List.length_filter_le (fun i=>wi.contains i) ci
  omega
 rw[show wi.length+(ci.length-wi.length+(ts.length+1))=l.toArray.size by omega]at this
 exact this
end
end
end Go.Proofs.YtokhkhnofkcalaaGreatDoor
