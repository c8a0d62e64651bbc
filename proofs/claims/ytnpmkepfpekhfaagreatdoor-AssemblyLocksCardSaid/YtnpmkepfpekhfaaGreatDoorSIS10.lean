/- texts: GK. -/
import Derived.Test.YtnpmkepfpekhfaaGreatDoorSIS9
namespace Go.Proofs.YtnpmkepfpekhfaaGreatDoor
set_option maxHeartbeats 8000000
set_option linter.all false
section
open Go.RowKit
theorem ex3 {α:Type} {P Q R:α→Prop} (c:α) (p:P c) (q:Q c) (r:R c):∃c,P c∧Q c∧R c:=⟨c,p,q,r⟩
def SP:={r:Value→World→Prop // dR r}
def sv (c:Value):SP:=⟨IsV c,TC c⟩
def xm (l:List SP) (i:Nat) (v:Value) (w:World):Prop:=(l.getD i (sv undef)).1 v w
section
variable {P:Program} {ops:Array Oper} {md:Region.Mode} {Q:Exit→Act→World→Prop}
def wpK (P:Program) (md:Region.Mode) (ops:Array Oper) (R:Nat→Value→World→Prop) (w0:World) (Q:Exit→Act→World→Prop) (zi:List Nat) (F:(Nat→Value)→Act→Prop):List Nat→(Nat→Value)→Act→Prop
 | [],vals,a=>F vals a
 |i::l,vals,a=>sQ P md ops R w0 Q zi i vals a∧((∃c,(∀v w,R i v w→v=c)∧wpK P md ops R w0 Q zi F l (upd vals i c) (a.put (aM ops i) c))∨∀v,wpK P md ops R w0 Q zi F l (upd vals i v) (a.put (aM ops i) v))
theorem Bj {a0:Act} {vals vals':Nat→Value} {L:Array Bool} {d:Nat} (h:∀j,aM ops j=some d→L.getD j false=true→vals j=vals' j):(frm ops a0 vals L).tmps[d]? =(frm ops a0 vals' L).tmps[d]? :=by
 unfold frm
 simp only[Array.getElem?_mapIdx]
 cases a0.tmps[d]? with
 |none=>rfl
 |some x=>
  simp only[Option.map_some]
  cases ho:yb ops L d with
  |none=>rfl
  |some j=>obtain⟨h1,h2⟩:=gr ho;simp only;rw[h j h2 h1]
theorem Bk (o:Oper) (hs:∀cs b,o.op≠ .select cs b) {a0:Act} {vals vals':Nat→Value} {L:Array Bool}
  (h:∀d∈o.looksAt ops,∀j,aM ops j=some d→L.getD j false=true→vals j=vals' j):execOp (frm ops a0 vals L).eval o=execOp (frm ops a0 vals' L).eval o:=by
 refine execOp_congr o hs fun x hx=> ?_
 cases x with
 |tmp d=>
  have hd:d∈o.looksAt ops:=List.mem_append_left _ (List.mem_filterMap.2 ⟨.tmp d,by simpa using hx,rfl⟩)
  have:=Bj (ops:=ops) (a0:=a0) (h d hd)
  simp only[Act.eval,Array.getD_eq_getD_getElem?,this]
 |_=>rfl
theorem kR (o:Oper) {a0:Act} {vals vals':Nat→Value} {L:Array Bool} (h:∀d∈o.looksAt ops,∀j,aM ops j=some d→L.getD j false=true→vals j=vals' j):
  Region.wanted o (yielded ops (frm ops a0 vals L).tmps)=Region.wanted o (yielded ops (frm ops a0 vals' L).tmps):=by
 unfold Region.wanted
 cases hg:o.guard with
 |none=>rfl
 |some gw=>
  obtain⟨g,want⟩:=gw
  have:yielded ops (frm ops a0 vals L).tmps g=yielded ops (frm ops a0 vals' L).tmps g:=by
   unfold yielded
   cases ho:(ops[g]?).bind (·.dst)with
   |none=>rfl
   |some d=>
    have hd:d∈o.looksAt ops:=List.mem_append_right _ (by simp[hg,ho])
    have:=Bj (ops:=ops) (a0:=a0) (h d hd)
    simp[this]
  simp only[this]
theorem uM {a0:Act} {vals:Nat→Value} {L:Array Bool}:(frm ops a0 vals L).tmps.size=a0.tmps.size:=by simp[frm]
theorem gK {zi ci:List Nat} {R:Nat→Value→World→Prop} {a0:Act} {w0:World} {F:(Nat→Value)→Act→Prop} (hsel:Region.noSelect ops=true) (hd:gZ ops=true) (hp:ci.Pairwise (· < ·)) (hlt:∀i∈ci,i<ops.size)
  (hdep:∀i∈ci,∀j,Region.waitsFor md ops i j=true→j<i∧j∈ci)
  (hlk:∀i∈ci,∀o,ops[i]? =some o→∀j∈ci,Region.waitsFor md ops i j=true∨∀d,aM ops j=some d→d ∉ o.looksAt ops):
  ∀(l pre:List Nat) (vals0:Nat→Value),ci=pre++l→wpK P md ops R w0 Q zi F l vals0 (frm ops a0 vals0 (bw ops pre ops.size))→
   (∀i∈l,∀vals:Nat→Value,(∀j∈pre,vals j=vals0 j∨∀w,¬R j (vals j) w)→sQ P md ops R w0 Q zi i vals (frm ops a0 vals (bw ops ci i)))∧
   (∀vals:Nat→Value,(∀j∈pre,vals j=vals0 j∨∀w,¬R j (vals j) w)→(∀j∈ci,∃w,R j (vals j) w)→∃vals1:Nat→Value,(∀j∈ci,vals j=vals1 j)∧F vals1 (frm ops a0 vals1 (bw ops ci ops.size)))
 | [],pre,vals0,he,h=>⟨(fun i hi=>by cases hi),fun vals hv hR=>⟨vals0,fun j hj=>by
   rcases hv j (by simpa [he]using hj)with h1|h1
   ·exact h1
   ·obtain⟨w,hw⟩:=hR j hj;exact absurd hw (h1 w),by rw[he,List.append_nil];exact h⟩⟩
 |i::l,pre,vals0,he,h=>by
  have hpre:∀j,(bw ops pre ops.size).getD j false=true→j∈pre:=fun j hj=>by
   rw[bg]at hj;simp at hj;exact hj.2
  have hu:bw ops ci i=bw ops pre ops.size:=by rw[he];exact jr (he▸hp)
  have hici:i∈ci:=by rw[he];simp
  have rest:∀vals:Nat→Value,(∀j∈pre,vals j=vals0 j∨∀w,¬R j (vals j) w)→∃v,wpK P md ops R w0 Q zi F l (upd vals0 i v) (frm ops a0 (upd vals0 i v) (bw ops (pre++[i]) ops.size))∧∀j∈pre++[i],vals j=upd vals0 i v j∨∀w,¬R j (vals j) w:=fun vals hv=>by
   have old:∀v,∀j∈pre++[i],j≠i→vals j=upd vals0 i v j∨∀w,¬R j (vals j) w:=fun v j hj hji=>by
    simp only[upd,if_neg hji]
    exact hv j (by simpa [hji]using hj)
   have hf:∀v,(frm ops a0 vals0 (bw ops pre ops.size)).put (aM ops i) v=frm ops a0 (upd vals0 i v) (bw ops (pre++[i]) ops.size):=fun v=>by
    rw[dU hd (by rw[eD];exact hlt i hici),jq (hlt i hici)]
   rcases h.2 with⟨c,hc,hk⟩|hk
   ·refine⟨c,by rw[←hf];exact hk,fun j hj=> ?_⟩
    by_cases hji:j=i
    ·subst hji
     by_cases hvc:vals j=c
     ·left;simpa [upd]using hvc
     ·right;exact fun w hw=>hvc (hc _ _ hw)
    ·exact old c j hj hji
   ·refine⟨vals i,by rw[←hf];exact hk _,fun j hj=> ?_⟩
    by_cases hji:j=i
    ·subst hji;left;simp[upd]
    ·exact old _ j hj hji
  refine⟨fun k hk vals hv=> ?_,fun vals hv hR=> ?_⟩
  ·rcases alsk.1 hk with rfl|hk
   ·intro w' hb hR
    have hin:∀j,Region.waitsFor md ops k j=true→j∈pre:=fun j hj=>by
     obtain⟨h1,h2⟩:=hdep k hici j hj
     have h3:(bw ops ci k).getD j false=true:=by rw[bg];simp[hlt j h2,h1,h2]
     rw[hu]at h3
     exact hpre j h3
    have heq:∀j,Region.waitsFor md ops k j=true→vals j=vals0 j:=fun j hj=>by
     rcases hv j (hin j hj)with h1|h1
     ·exact h1
     ·exact absurd (hR j hj) (h1 w')
    have h1:=h.1 w' hb (fun j hj=>by rw[←heq j hj];exact hR j hj)
    have hag:∀o,ops[k]? =some o→∀d∈o.looksAt ops,∀j,aM ops j=some d→(bw ops pre ops.size).getD j false=true→vals j=vals0 j:=fun o ho d hdl j hj hl=>by
     rcases hlk k hici o ho j (by rw[he];exact List.mem_append_left _ (hpre j hl))with h1|h1
     ·exact heq j h1
     ·exact absurd hdl (h1 d hj)
    rw[hu]
    split
    ·rename_i hz
     rw[if_pos hz]at h1
     obtain⟨o,v,ho,hy,hv⟩:=h1
     refine⟨o,v,ho, ?_,hv⟩
     unfold Yields at hy ⊢
     rw[kR o (hag o ho),Bk o (fun cs b=>Region.noSelect_spec hsel k o cs b ho) (hag o ho)]
     exact hy
    ·rename_i hz
     rw[if_neg hz]at h1
     obtain⟨o,d,ho,hdst,hds,hwp⟩:=h1
     refine⟨o,d,ho,hdst,by rw[uM]at hds ⊢;exact hds, ?_⟩
     rw[kR o (hag o ho)]
     split
     ·rename_i hw
      rw[if_pos hw]at hwp
      exact iB (Bk o (fun cs b=>Region.noSelect_spec hsel k o cs b ho) (hag o ho)) hdst hds hwp
     ·rename_i hw
      rw[if_neg hw]at hwp
      exact hwp
   ·obtain⟨v,h1,h2⟩:=rest vals hv
    exact(gK hsel hd hp hlt hdep hlk l (pre++[i]) (upd vals0 i v) (by rw[he];simp) h1).1 k hk vals h2
  ·obtain⟨v,h1,h2⟩:=rest vals hv
   exact(gK hsel hd hp hlt hdep hlk l (pre++[i]) (upd vals0 i v) (by rw[he];simp) h1).2 vals h2 hR
theorem aj {id:Nat} {a:Act} {w:World} {l:List Oper} (zi ci:List Nat) (t0:Nat) (ts:List Nat) (R:List SP) (hm:P.follows .mixedOrders=true) (hB:ke .any l.toArray zi ci t0 ts=true)
  (h:wpK P .any l.toArray (xm R) w Q zi (fun vals a'=>∀u:Ext w,(∀i∈ci,xm R i (vals i) u.val)→wpList P l.toArray (NoPanic Q) (bu l.toArray (t0::ts)) a' u.val) ci (fun _=>undef) a):
  (Code.region id l.toArray true).wp P Q a w:=by
 refine wp_region_noPanic (wp_region_any hm ?_)
 have hst:∀i v w w',Below w.heap.size w w'→xm R i v w→xm R i v w':=fun i v w w' hb h=>(R.getD i (sv undef)).2 v w w' hb h
 have hB':=hB
 simp only[ke,qaF,decide_eq_true_eq]at hB
 obtain⟨⟨⟨⟨⟨⟨⟨⟨⟨⟨⟨⟨hsel,hd⟩,hnd⟩,hpw⟩,htl⟩,hsz⟩,hs⟩,_⟩,hc⟩,hdis⟩,hcov⟩,hop⟩,hfo⟩:=hB
 have hlt:∀i∈ci,i<l.toArray.size:=fun i hi=>by
  have h:=alsi.1 hop i hi
  rcases Nat.lt_or_ge i l.toArray.size with h'|h'
  ·exact h'
  ·rw[Array.getElem?_eq_none h']at h;cases h
 have hdep:∀i∈ci,∀j,Region.waitsFor .any l.toArray i j=true→j<i∧j∈ci:=fun i hi j hj=>by
  have h:=alsi.1 hop i hi
  obtain⟨o,ho,e,hem,hb,rfl⟩:=Region.waitsFor_spec hj
  rw[ho]at h
  simp only[qaF]at h
  have:=Array.all_eq_true'.1 h.1 e hem
  simpa [hb]using this
 have hlk:∀i∈ci,∀o,l.toArray[i]? =some o→∀j∈ci,Region.waitsFor .any l.toArray i j=true∨∀d,aM l.toArray j=some d→d ∉ o.looksAt l.toArray:=fun i hi o ho j hj=>by
  have h:=alsi.1 hop i hi
  rw[ho]at h
  simp only[qaF]at h
  have h2:=alsi.1 h.2 j (List.mem_range.2 (hlt j hj))
  have hnt:j ∉ t0::ts:=by have:=alsi.1 hdis j hj;simpa using this
  simp only[Bool.or_eq_true]at h2
  rcases h2 with(h3|h3)|h3
  ·exact absurd (by simpa using h3) hnt
  ·exact .inl h3
  ·refine .inr fun d hd hm=> ?_
   rw[hd]at h3
   simp[hm]at h3
 have hnil:∀j,(bw l.toArray [] l.toArray.size).getD j false=false:=fun j=>by rw[bg];simp
 have hobs:=gK (P:=P) (md:= .any) (Q:=Q) (zi:=zi) (R:=xm R) (a0:=a) (w0:=w) hsel hd hpw hlt hdep hlk ci [] (fun _=>undef) rfl (by rw[dD hnil];exact h)
 have hrep:∀j,(Array.replicate l.toArray.size false).getD j false=false:=fun j=>getD_replicate_false _ _
 have:=js (P:=P) (Q:=Q) hB' (a0:=a) (w0:=w) hst (fun i hi vals=>hobs.1 i hi vals (by simp)) (fun vals w' hb hR=>by
   obtain⟨vals1,h1,h2⟩:=hobs.2 vals (by simp) (fun j hj=>⟨w',hR j hj⟩)
   rw[dO (vals:=vals) (vals':=vals1) (fun j hj=>h1 j (by rw[bg]at hj;simp at hj;exact hj.2))]
   exact h2 ⟨w',hb⟩ (fun i hi=>by rw[←h1 i hi];exact hR i hi)) ci.length (Array.replicate l.toArray.size false) (fun _=>undef) {w with drawn:=w.drawn+1}
  ⟨fun j oj _ hl=>(by rw[hrep]at hl;cases hl),fun t _ ht=>getD_in (by simpa using ht) (getD_replicate_false _ _),by simp⟩
  (by rw[List.filter_eq_self.2 (fun i _=>by rw[hrep];rfl)]) ⟨rfl,rfl,rfl,qaA _,fun _ _=>rfl⟩ (fun j hj=>by rw[hrep]at hj;cases hj)
 rw[dD hrep,hsz]at this
 exact this
variable {R:Nat→Value→World→Prop} {w0:World} {zi:List Nat} {F:(Nat→Value)→Act→Prop} {i:Nat} {l:List Nat} {vals:Nat→Value} {a:Act} {o:Oper} {d:Nat}
theorem aI (h:F vals a):wpK P md ops R w0 Q zi F [] vals a:=h
theorem yw (ho:ops[i]? =some o) (hd:o.dst=some d) (hlt:d<a.tmps.size) (hg:o.guard=none) (hz:zi.contains i=false)
  (h1:∀w',Below w0.heap.size w0 w'→(∀j,Region.waitsFor md ops i j=true→R j (vals j) w')→o.wp P a w' (fun x w''=>∃v,x=a.put o.dst v∧Below w'.heap.size w' w''∧R i v w'') (NoPanic Q)):sQ P md ops R w0 Q zi i vals a:=fun w' hb hR=>
 by rw[if_neg (by rw[hz];simp)];exact⟨o,d,ho,hd,hlt,by rw[if_pos (by unfold Region.wanted;rw[hg])];exact h1 w' hb hR⟩
theorem wkv (ho:ops[i]? =some o) (hd:o.dst=some d) (hlt:d<a.tmps.size) (hg:o.guard=none) (hz:zi.contains i=false)
  (h:∃c,(∀(u:Ext w0) (K:Act→World→Prop),(∀w'',Below u.val.heap.size u.val w''→K (a.put (some d) c) w'')→o.wp P a u.val K (NoPanic Q))∧R i=IsV c∧wpK P md ops R w0 Q zi F l (upd vals i c) (a.put (some d) c)):wpK P md ops R w0 Q zi F (i::l) vals a:=by
 obtain⟨c,h1,h2,h3⟩:=h
 refine⟨yw ho hd hlt hg hz fun w' hb _=>h1 ⟨w',hb⟩ _ fun w'' hb'=>⟨c,by rw[hd],hb',by rw[h2];rfl⟩, .inl ⟨c,fun v w hv=>by rw[h2]at hv;exact hv, ?_⟩⟩
 have:aM ops i=some d:=by simp[aM,ho,hd]
 rw[this]
 exact h3
theorem wkV (h:∃c,(∀(u:Ext w0) (K:Act→World→Prop),(∀w'',Below u.val.heap.size u.val w''→K (a.put (some d) c) w'')→o.wp P a u.val K (NoPanic Q))∧R i=IsV c∧wpK P md ops R w0 Q zi F l (upd vals i c) (a.put (some d) c))
  (ho:ops[i]? =some o:=by rfl) (hd:o.dst=some d:=by rfl) (hlt:d<a.tmps.size:=by simp) (hg:o.guard=none:=by rfl) (hz:zi.contains i=false:=by rfl):wpK P md ops R w0 Q zi F (i::l) vals a:=wkv ho hd hlt hg hz h
theorem wkQ {c:Value} (h3:wpK P md ops R w0 Q zi F l (upd vals i c) (a.put (some d) c)) (ho:ops[i]? =some o:=by rfl) (hd:o.dst=some d:=by rfl) (hlt:d<a.tmps.size:=by simp) (hg:o.guard=none:=by rfl) (hz:zi.contains i=false:=by rfl)
  (h1:∀(u:Ext w0) (K:Act→World→Prop),(∀w'',Below u.val.heap.size u.val w''→K (a.put (some d) c) w'')→o.wp P a u.val K (NoPanic Q):=by intro u K hK;go_simp;exact hK _ brf) (h2:R i=IsV c:=by rfl):wpK P md ops R w0 Q zi F (i::l) vals a:=wkv ho hd hlt hg hz ⟨c,h1,h2,h3⟩
theorem wku (ho:ops[i]? =some o) (hd:o.dst=some d) (hlt:d<a.tmps.size) (hg:o.guard=none) (hz:zi.contains i=false)
  (h1:∀u:Ext w0,(∀j,Region.waitsFor md ops i j=true→R j (vals j) u.val)→
   ∀K:Act→World→Prop,(∀v w'',Below u.val.heap.size u.val w''→R i v w''→K (a.put (some d) v) w'')→o.wp P a u.val K (NoPanic Q))
  (h2:∀v,wpK P md ops R w0 Q zi F l (upd vals i v) (a.put (some d) v)):wpK P md ops R w0 Q zi F (i::l) vals a:=by
 refine⟨yw ho hd hlt hg hz fun w' hb hR=>h1 ⟨w',hb⟩ hR _ fun v w'' hb' hr=>⟨v,by rw[hd],hb',hr⟩, .inr fun v=> ?_⟩
 have:aM ops i=some d:=by simp[aM,ho,hd]
 rw[this]
 exact h2 v
theorem wkU (h1:∀u:Ext w0,(∀j,Region.waitsFor md ops i j=true→R j (vals j) u.val)→
   ∀K:Act→World→Prop,(∀v w'',Below u.val.heap.size u.val w''→R i v w''→K (a.put (some d) v) w'')→o.wp P a u.val K (NoPanic Q))
  (h2:∀v,wpK P md ops R w0 Q zi F l (upd vals i v) (a.put (some d) v)) (ho:ops[i]? =some o:=by rfl) (hd:o.dst=some d:=by rfl) (hlt:d<a.tmps.size:=by simp) (hg:o.guard=none:=by rfl) (hz:zi.contains i=false:=by rfl):wpK P md ops R w0 Q zi F (i::l) vals a:=wku ho hd hlt hg hz h1 h2
theorem wkz (ho:ops[i]? =some o) (hd:o.dst=some d) (hg:o.guard=none) (hz:zi.contains i=true)
  (h:∃c,(∀w,(execOp a.eval o).run P w= .ok (.value c) w)∧R i=IsV c∧wpK P md ops R w0 Q zi F l (upd vals i c) (a.put (some d) c)):wpK P md ops R w0 Q zi F (i::l) vals a:=by
 obtain⟨c,h1,h2,h3⟩:=h
 refine⟨fun w' hb hR=> ?_, .inl ⟨c,fun v w hv=>by rw[h2]at hv;exact hv, ?_⟩⟩
 ·rw[if_pos hz]
  exact⟨o,c,ho, .inl ⟨by unfold Region.wanted;rw[hg],h1⟩,fun w''=>by rw[h2];rfl⟩
 ·have:aM ops i=some d:=by simp[aM,ho,hd]
  rw[this]
  exact h3
end
end
end Go.Proofs.YtnpmkepfpekhfaaGreatDoor
