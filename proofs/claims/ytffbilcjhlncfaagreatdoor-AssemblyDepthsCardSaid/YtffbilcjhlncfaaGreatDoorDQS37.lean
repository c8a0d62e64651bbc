/- texts: AC8 AC9 BWS W7. -/
import Derived.Test.YtffbilcjhlncfaaGreatDoorDQS34
import Derived.Test.YtffbilcjhlncfaaGreatDoorDQS36
namespace Go.Proofs.YtffbilcjhlncfaaGreatDoor
set_option maxHeartbeats 8000000
set_option linter.all false
section
open Go.RowKit Go.Shelf
set_option maxRecDepth 100000
attribute [local go_sem] Ext.cell Ext.frozen
def QE (B:Nat):Value→World→Prop:=fun v w=>∃g,v= .slice (some ⟨g,0,none⟩) 0 0∧B≤g∧w.heap[g]? =some (.cells #[] 190 (0,0))
theorem Ox (B:Nat):dR (QE B):=fun _ _ _ hb ⟨g,h1,h2,h3⟩=>⟨g,h1,h2,(hb.block g (ah h3)).trans h3⟩
def OA (B:Nat) (L:List Q4):Value→World→Prop:=fun v w=>w.ownsRow B 190 4 v L.length (L.flatMap aH)
theorem Pt (B:Nat) (L:List Q4):dR (OA B L):=fun _ _ _ hb h=>au h hb
def QX (B:Nat) (L:List Q4):Value→World→Prop:=fun v w=>∃g x,v= .slice (some ⟨g,0,none⟩) 1 1∧w.heap[g]? =some (.cells #[x] 164 (0,0))∧w.ownsRow B 190 4 x L.length (L.flatMap aH)
def QF (B:Nat) (L:List Q4):Value→World→Prop:=fun v w=>∃x,v= .agg #[x]∧w.ownsRow B 190 4 x L.length (L.flatMap aH)
theorem Oy (B:Nat) (L:List Q4):dR (QF B L):=fun _ _ _ hb ⟨x,h1,h2⟩=>⟨x,h1,au h2 hb⟩
theorem Pu (B:Nat) (L:List Q4):dR (QX B L):=fun _ _ _ hb ⟨g,x,h1,h2,h3⟩=>⟨g,x,h1,(hb.block g (ah h2)).trans h2,au h3 hb⟩
theorem PR {w:World} {base g:Nat} {e T:TypeId} {size n i:Nat} {v u:Value} {xs:List Value} {cs:Array Value} (h:w.ownsRow base e size v n xs) (hg:w.heap[g]? =some (.cells cs T (0,0))) (hT:e≠T):(w.setCell ⟨g,i,none⟩ u).ownsRow base e size v n xs:=
 aF h _ _ (fun k=>aG h hg hT k.symm)
def SolO (B:Nat) (w:World) (v:Value) (css:List (List Q4)):Prop:=∃vs,w.ownsRow B 164 1 v css.length vs∧RowsV w B vs css
theorem SolO.sol {B:Nat} {w:World} {v:Value} {css:List (List Q4)} (h:SolO B w v css):SolV w v css:=by obtain⟨vs,h1,h2⟩:=h;exact qp h1 h2
theorem SolO.below {B:Nat} {w w':World} {v:Value} {css:List (List Q4)} (h:SolO B w v css) (hb:Below w.heap.size w w'):SolO B w' v css:=by obtain⟨vs,h1,h2⟩:=h;exact⟨vs,au h1 hb,h2.below hb⟩
theorem SolO.mono {B B':Nat} {w:World} {v:Value} {css:List (List Q4)} (h:SolO B w v css) (hb:B'≤B):SolO B' w v css:=by obtain⟨vs,h1,h2⟩:=h;exact⟨vs,AY h1 hb,h2.mono hb⟩
def CpP (css:List (List Q4)) (W:World) (e:Ending) (w':World):Prop:=∃v,e= .returned (.agg #[v])∧Below W.heap.size W w'∧SolO W.heap.size w' v css
theorem PA (css:List (List Q4)) (sv:Value) (W:World) (hl:css.length≤1000) (hL:∀c∈css,c.length≤1000) (h:SolV W sv css):
  Calls Tryz.prog 44 #[.agg #[sv]] W (CpP css W):=by
 obtain⟨i0,hi0,hz0,hz1,hz2⟩:=info_parts cY
 have Hi0:=YJ (And.intro hi0 (And.intro hz0 (And.intro hz1 hz2)))
 obtain⟨i1,hj0,hy0,hy1,hy2⟩:=info_parts nt
 have Hi1:=YJ (And.intro hj0 (And.intro hy0 (And.intro hy1 hy2)))
 clear hi0 hz0 hz1 hz2 hj0 hy0 hy1 hy2
 obtain⟨sa,n,sc,rfl,hn, -,hx⟩:=h
 have HX:=YJ hx
 have HN:=YJ hn
 have hn1:n≤1000:=by omega
 have HLn:=fun i (h:i<css.length)=>YJ (hL _ (qaB h))
 have HT:=fun i (h:i<css.length)=>YJ (qaI h)
 have HTl:=fun i (h:i≤css.length)=>YJ (show(css.take i).length=i by rw[qge];omega)
 have HTn:Hid (css.take n=css):=YJ (by rw[←hn];exact qgi)
 clear hx hn hl hL
 obtain⟨V,HV⟩:∃V,Hid (((W.alloc (.cells #[.slice sa n sc] 75)).alloc (.cells #[.slice none 0 0] 75)).alloc (.cells #[.slice none 0 0] 75)=V):=⟨_,YJ rfl⟩
 have hV:Below W.heap.size W V:=by rw[←HV.out];exact bel
 have zV:V.heap.size=W.heap.size+3:=by rw[←HV.out];simp
 have BA:Hid (V.heap[W.heap.size]? =some (.cells #[.slice sa n sc] 75 (0,0))):=YJ (by rw[←HV.out];exact(aB (by simp<;>omega)).trans ((aB (by simp)).trans (ai rfl)))
 have BR:Hid (V.heap[W.heap.size+1]? =some (.cells #[.slice none 0 0] 75 (0,0))):=YJ (by rw[←HV.out];exact(aB (by simp)).trans (ai (by simp)))
 have BO:Hid (V.heap[W.heap.size+2]? =some (.cells #[.slice none 0 0] 75 (0,0))):=YJ (by rw[←HV.out];exact ai (by simp))
 go_enter Tryz.func44,Tryz.ntmps44
 go_wp2
 try rw[HV.out]
 go_loopw [4] (fun x wr=>∃k:Nat,k≤n∧x= .int .i64 k∧Below W.heap.size W wr∧W.heap.size+3≤wr.heap.size∧Hid (wr.heap[W.heap.size]? =some (.cells #[.slice sa n sc] 75 (0,0)))∧Hid (wr.heap[W.heap.size+1]? =some (.cells #[.slice none 0 0] 75 (0,0)))∧
   ∃s vs,Hid (wr.heap[W.heap.size+2]? =some (.cells #[s] 75 (0,0)))∧Hid (wr.ownsRow (W.heap.size+3) 164 1 s k vs)∧Hid (RowsV wr (W.heap.size+3) vs (css.take k))) (fun x _=>n-(intOf x).toNat)
 case atStart=>exact⟨0,by omega,rfl,hV,by omega,BA,BR, .slice none 0 0,[],BO,YJ (qds _ _ _ _),YJ RowsV.nil⟩
 case round=>
  clear BA BR BO hV zV
  obtain⟨k,hk,rfl,hb,zr,HA,HR,s,vs,HG,HO,HRv⟩:=hrel
  have a0:wr.cell? ⟨W.heap.size,0,none⟩=some (.slice sa n sc):=(bq HA.out 0).trans rfl
  have az:=ah HA.out
  have g0:wr.cell? ⟨W.heap.size+2,0,none⟩=some s:=(bq HG.out 0).trans rfl
  have gz:=ah HG.out
  have gf:=aC HG.out
  by_cases hlt:k<n
  ·have g1:(k:Int)<(n:Int):=by omega
   have g2:(0:Int)≤(k:Int):=by omega
   have hil:k<css.length:=by have:=HN.out;omega
   obtain⟨b,off,rfl,hi4⟩:=HX.out (by omega)
   obtain⟨pv,e0,hs⟩:=hi4 k hil
   have e0:=ab hb e0
   have ze:=qaC wr _ e0
   simp only at ze
   have HQ:=YJ (hs.below hb)
   obtain⟨pa,pn,pc,rfl,hpn, -,hpx⟩:=hs.below hb
   have hpl:pn≤1000:=by have:=(HLn k hil).out;omega
   have HTk:=HT k hil
   have HPn:=YJ hpn
   have HPx:=YJ hpx
   clear hi4 hs HX HLn HT hpn hpx
   generalize css[k]=c at*
   obtain⟨sad,scap,rfl⟩:=aT HO.out
   go_wp2
   apply aj [] [0,1,2,3,4,5,6,7,8,9,10,11] 12 [13,14] [sv _,sv _,⟨QE wr.heap.size,by first|exact Ox _|exact Pt _ _|exact Oy _ _|exact Pu _ _⟩,sv _,sv _,sv _,sv _,sv _,sv _,⟨OA wr.heap.size c,by first|exact Ox _|exact Pt _ _|exact Oy _ _|exact Pu _ _⟩,⟨QF wr.heap.size c,by first|exact Ox _|exact Pt _ _|exact Oy _ _|exact Pu _ _⟩,⟨QX wr.heap.size c,by first|exact Ox _|exact Pt _ _|exact Oy _ _|exact Pu _ _⟩] (by kernel_rfl) (by kernel_rfl)
   iterate 2 ((try go_frame);refine wkQ ?_)
   try go_frame
   refine wkU (fun u hR K hK=> ?_) (fun o2=> ?_)
   ·clear hR
    have zz:=u.below.size
    go_simp
    exact hK _ _ bel ⟨_,rfl,zz,ai rfl⟩
   iterate 6 ((try go_frame);refine wkQ ?_)
   try go_frame
   refine wkU (fun u hR K hK=> ?_) (fun o9=> ?_)
   ·have h2:QE wr.heap.size o2 u.val:=hr hR 2
    clear hR
    obtain⟨gm,rfl,hgm,hgl⟩:=h2
    rcases Nat.eq_zero_or_pos pn with h0|h0
    ·(subst h0;obtain rfl:c=[]:=alto.1 HPn.out;exact cZ _ _ 162 rfl (append_nil 162 _ 190 i0 Oc Hi0.out.1 ⟨gm,0,none⟩ _ _) (hK _ _ (brf) (show OA wr.heap.size [] _ _ from⟨rfl, .inr ⟨gm,0,#[],rfl,hgm,hgl,qaA _,by unfold maxLen;omega,rfl,rfl⟩⟩)))
    obtain⟨pb,poff,rfl,hq⟩:=HPx.out h0
    obtain⟨v9,w9,hrun,hown9,hb9⟩:=dM (P:=Tryz.prog) (w:=u.val) 162 162 190 i0 (v4 (0,0,0,0)) 4 32 Oc Hi0.out.1 Hi0.out.2.1 Hi0.out.2.2.1 Hi0.out.2.2.2 rfl (by decide) ⟨gm,0,none⟩ 0 0 [] rfl (fun _ _ h=>by simp at h) ⟨pb,poff,none⟩ pn pc (c.flatMap aH) (by rw[bh,HPn.out]) (MA (Q4At.below hq u.below)) (by omega) (by unfold maxLen;omega) (by omega)
    exact cZ _ _ 162 rfl hrun (hK _ _ hb9 (show OA wr.heap.size c v9 w9 from by have h9:=AY hown9 u.below.size;simp only[qfW,List.nil_append]at h9;unfold OA;rw[HPn.out];exact h9))
   try go_frame
   refine wkU (fun u hR K hK=> ?_) (fun o10=> ?_)
   ·have h9:(OA wr.heap.size c) o9 u.val:=hr hR 9
    clear hR
    have H9:=YJ h9
    obtain⟨a9,c9,rfl⟩:=aT h9
    clear h9
    go_simp
    exact hK _ _ (brf) ⟨_,rfl,H9.out⟩
   try go_frame
   refine wkU (fun u hR K hK=> ?_) (fun o11=> ?_)
   ·have h10:QF wr.heap.size c o10 u.val:=hr hR 10
    clear hR
    obtain⟨x9,rfl,h9⟩:=h10
    have H9:=YJ h9
    obtain⟨a9,c9,rfl⟩:=aT h9
    clear h9
    go_simp
    exact hK _ _ bel ⟨_,_,rfl,ai rfl,au H9.out bel⟩
   try go_frame
   refine aI (fun u hR=> ?_)
   obtain⟨g,x,rfl,hg,hx⟩:QX wr.heap.size c o11 u.val:=hR 11 (by simp)
   have HGx:=YJ hg
   have HXx:=YJ hx
   have hbu:=u.below
   have HAu:=YJ ((hbu.block _ (ah HA.out)).trans HA.out)
   have HRu:=YJ ((hbu.block _ (ah HR.out)).trans HR.out)
   have HGu:=YJ ((hbu.block _ (ah HG.out)).trans HG.out)
   have HOu:=YJ (au HO.out hbu)
   have HVu:=YJ ((HRv.out.below hbu).snoc (AY hx zr))
   have hWX:=fB hb hbu
   have zX:W.heap.size+3≤u.val.heap.size:=qaD zr hbu.size
   clear hR hg hx HA HR HG HO HRv a0 az g0 gz gf e0 ze HQ HPx
   rw[←HTk.out]at HVu
   generalize u.val=X at*
   clear u hbu
   simp only[oas]
   refine fq _ rfl _ _ 73 rfl (W.heap.size+3) 164 i1 (.agg #[.slice none 0 0]) 1 24 nu Hi1.out.1 Hi1.out.2.1 Hi1.out.2.2.1 Hi1.out.2.2.2 rfl (by decide) _ k vs rfl HOu.out ⟨g,0,none⟩ 1 1 [x] rfl rfl ?c1 ?c2 ?c3 ?c4 ?c5 ?_
   case c1=>
    intro j u hu
    rw[jY,bq HGx.out]
    simpa using hu
   case c2=>
    intro u hu
    simp at hu
    subst hu
    obtain⟨_,_,rfl⟩:=aT HXx.out
    rfl
   case c3=>unfold maxLen;omega
   case c4=>omega
   case c5=>omega
   intro v' w4 hown4 hg4 _
   have HA4:=YJ ((hg4.block _ (ah HAu.out) (fun e=>aG HOu.out HAu.out (by decide) e.symm)).trans HAu.out)
   have HR4:=YJ ((hg4.block _ (ah HRu.out) (fun e=>aG HOu.out HRu.out (by decide) e.symm)).trans HRu.out)
   have HG4:=YJ ((hg4.block _ (ah HGu.out) (fun e=>aG HOu.out HGu.out (by decide) e.symm)).trans HGu.out)
   have hb4:Below W.heap.size W w4:=hWX.grown hg4 hWX.size (fun z hz=>by have:=(HOu.out.lt z hz).1;omega)
   have z4:W.heap.size+3≤w4.heap.size:=qaD zX hg4.size
   have HV4:=YJ (HVu.out.kept hg4 (fun g cs h1 h2=>by obtain⟨c,t,h3,h4⟩:=jC HOu.out g cs h1 h2;exact⟨c,t,h3,by rw[h4];decide⟩))
   have HO4:=YJ hown4
   obtain⟨va,vc,rfl⟩:=aT hown4
   clear hown4 hg4 HAu HRu HGu HOu HVu HGx HXx hWX zX
   have g0:w4.cell? ⟨W.heap.size+2,0,none⟩=some (.slice sad k scap):=(bq HG4.out 0).trans rfl
   have gz:=ah HG4.out
   have gf:=aC HG4.out
   iterate 2 (refine wpList_step (fun K hK=> ?_);go_simp;refine hK _ _ ?_;clear hK K)
   refine NoPanic.normal ?_
   go_wp2
   go_roundw
   case rel=>exact⟨k+1,by omega,by go_num,hb4.setCell (p:=⟨W.heap.size+2,0,none⟩) (by show _≤W.heap.size+2;omega) _,by simp;omega,YJ ((qaH _ _ _ _ (show W.heap.size≠W.heap.size+2 by omega)).trans HA4.out),YJ ((qaH _ _ _ _ (show W.heap.size+1≠W.heap.size+2 by omega)).trans HR4.out),_,vs++[x],YJ (Tu HG4.out 0 _),YJ (PR HO4.out HG4.out (by decide)),YJ (HV4.out.set HG4.out (by decide))⟩
   simp[intOf];try omega
  ·obtain rfl:n=k:=by omega
   have r0:wr.cell? ⟨W.heap.size+1,0,none⟩=some (.slice none 0 0):=(bq HR.out 0).trans rfl
   have rz:=ah HR.out
   have rf:=aC HR.out
   obtain⟨sad,scap,rfl⟩:=aT HO.out
   have HVn:=HRv
   rw[HTn.out]at HVn
   clear HX HRv HLn HT
   go_wp2
   refine bodyPost_ret (v:= .agg #[.slice sad n scap]) (by simp[results,Tryz.results44,go_sem,r0,rz]) rfl ⟨_,rfl,hb.setCell (p:=⟨W.heap.size+1,0,none⟩) (by show _≤W.heap.size+1;omega) _,vs, ?_, ?_⟩
   ·have h1:=PR (i:=0) (u:= .slice sad n scap) HO.out HR.out (by decide)
    rw[HN.out]
    exact AY h1 (by omega)
   ·exact(HVn.out.set HR.out (by decide)).mono (by omega)
theorem Qu {w w':World} {base:Nat} {e:TypeId} {size n:Nat} {v:Value} {xs:List Value} {row:Option Nat} (h:w.ownsRow base e size v n xs) (hg:w.grownBy w' row) (hne:∀g cs,row=some g→w.heap[g]? =some cs→∃c t,cs= .cells c t (0,0)∧t≠e):w'.ownsRow base e size v n xs:=by
 refine h.kept hg ?_
 cases hr:row with
 |none=>cases hv:v.ownBlock<;>simp
 |some g=>
  right
  intro k
  rcases h.2 with⟨hv,_⟩|⟨g',cap,cur,hv,_,hh,_⟩
  ·rw[hv]at k;simp[Value.ownBlock]at k
  ·rw[hv]at k
   have:g'=g:=by simpa [Value.ownBlock]using k
   subst this
   obtain⟨c,t,h3,h4⟩:=hne _ _ hr hh
   cases h3
   exact h4 rfl
theorem SolO.kept {B:Nat} {w w':World} {v:Value} {css:List (List Q4)} {row:Option Nat} (h:SolO B w v css) (hg:w.grownBy w' row) (hne:∀g cs,row=some g→w.heap[g]? =some cs→∃c t,cs= .cells c t (0,0)∧t=75):SolO B w' v css:=by
 obtain⟨vs,h1,h2⟩:=h
 refine⟨vs,Qu h1 hg (fun g cs k1 k2=> ?_),h2.kept hg (fun g cs k1 k2=> ?_)⟩
 ·obtain⟨c,t,h3,h4⟩:=hne g cs k1 k2
  exact⟨c,t,h3,by rw[h4];decide⟩
 ·obtain⟨c,t,h3,h4⟩:=hne g cs k1 k2
  exact⟨c,t,h3,by rw[h4];decide⟩
def SolsR (B:Nat) (w:World) (vs:List Value) (l:List (List (List Q4))):Prop:=vs.length=l.length∧∀i (h1:i<vs.length) (h2:i<l.length),SolO B w vs[i] l[i]
theorem SolsR.snoc {B:Nat} {w:World} {vs:List Value} {l:List (List (List Q4))} {v:Value} {s:List (List Q4)} (h:SolsR B w vs l) (hv:SolO B w v s):SolsR B w (vs++[v]) (l++[s]):=by
 refine⟨by simp[h.1],fun i h1 h2=> ?_⟩
 by_cases hi:i<vs.length
 ·have hc:i<l.length:=by rw[←h.1];exact hi
  rw[qgn hi,qgn hc]
  exact h.2 i hi hc
 ·have he:i=vs.length:=by simp at h1;omega
  subst he
  have:=h.1
  simp only[List.getElem_append_right (qaA _),Nat.sub_self,qdt]
  rw[List.getElem_append_right (by omega)]
  simp only[this,Nat.sub_self,qdt]
  exact hv
theorem Qv {w:World} {B n:Nat} {v:Value} {vs:List Value} {l:List (List (List Q4))} (h:w.ownsRow B 75 1 v n vs) (hn:n=l.length) (hr:SolsR B w vs l):SolsV w v l:=by
 subst hn
 have hlen:=h.1
 have hX:=h.2
 rcases hX with⟨rfl,h0⟩|⟨g,cap,cur,rfl,hb,hh,hnc,hcm,hcs,htk⟩
 ·exact⟨none,0,0,rfl,h0,qaA _,fun h=>absurd h (by omega)⟩
 ·refine⟨_,_,_,rfl,rfl,hnc,fun _=>⟨g,0,rfl,fun i hi=> ?_⟩⟩
  have hi2:i<vs.length:=by omega
  refine⟨vs[i], ?_,(hr.2 i hi2 hi).sol⟩
  have h3:=(World.ownsRow.cells h rfl) i vs[i] (by simp[hi2])
  simpa [jY]using h3
def Rg (l:List (List (List Q4))) (W:World) (e:Ending) (w':World):Prop:=∃v,e= .returned v∧Below W.heap.size W w'∧SolsV w' v l
theorem Qj:(Tryz.prog.info? 75).map (fun i=>(i.zero,i.size,i.bytes))=some (some (.agg #[.slice none 0 0]),1,24):=by kernel_rfl
theorem Qk:Tryz.prog.underlying 22=some (.slice 75):=by kernel_rfl
theorem Py (l:List (List (List Q4))) (lv:Value) (W:World) (hl:l.length≤1000) (hL:∀s∈l,s.length≤1000∧∀c∈s,c.length≤1000) (h:SolsV W lv l):
  Calls Tryz.prog 10 #[lv] W (Rg l W):=by
 obtain⟨i1,Hi1⟩:=qfT Qj
 obtain⟨la,n,lc,rfl,hn, -,hx⟩:=h
 have HX:=YJ hx
 have HN:=YJ hn
 have hn1:n≤1000:=by omega
 have HLn:=fun i (h:i<l.length)=>YJ (hL _ (qaB h))
 have HT:=fun i (h:i<l.length)=>YJ (qaI h)
 have HTn:Hid (l.take n=l):=YJ (by rw[←hn];exact qgi)
 clear hx hn hl hL
 go_enter Tryz.func10,Tryz.ntmps10
 go_wp2
 go_loopw [3,4] (fun s x wr=>∃k:Nat,k≤n∧x= .int .i64 k∧Below W.heap.size W wr∧∃vs,Hid (wr.ownsRow W.heap.size 75 1 s k vs)∧Hid (SolsR W.heap.size wr vs (l.take k))) (fun _ x _=>n-(intOf x).toNat)
 case atStart=>exact⟨0,by omega,rfl,brf,[],YJ (qds _ _ _ _),YJ ⟨rfl,fun i h=>by simp at h⟩⟩
 case round=>
  obtain⟨k,hk,rfl,hb,vs,HO,HR⟩:=hrel
  obtain⟨oa,oc,rfl⟩:=aT HO.out
  by_cases hlt:k<n
  ·have g1:(k:Int)<(n:Int):=by omega
   have g2:(0:Int)≤(k:Int):=by omega
   have hil:k<l.length:=by have:=HN.out;omega
   obtain⟨b,off,rfl,hi4⟩:=HX.out (by omega)
   obtain⟨sv,e0,hs⟩:=hi4 k hil
   have e0:=ab hb e0
   have ze:=qaC wr _ e0
   simp only at ze
   have HC:=YJ (PA l[k] sv wr (HLn k hil).out.1 (HLn k hil).out.2 (hs.below hb))
   have HTk:=HT k hil
   obtain⟨sa,sn,sc,rfl, -⟩:=hs
   clear hi4 HX HLn HT
   generalize l[k]=s at*
   go_wp2_with fail
   refine(HC.out).mono ?_
   rintro e w1 ⟨v9,rfl,hb1,hs1⟩
   have HS1:=YJ hs1
   have HO1:=YJ (au HO.out hb1)
   have HR1:Hid (SolsR W.heap.size w1 vs (l.take k)):=YJ ⟨HR.out.1,fun i h1 h2=>(HR.out.2 i h1 h2).below hb1⟩
   have hw1:=fB hb hb1
   obtain⟨a9,n9,c9,rfl, -⟩:=hs1.sol
   clear hs1 HC HO HR e0 ze
   have hbx:Below w1.heap.size w1 (w1.alloc (.cells #[.slice a9 n9 c9] 75)):=bel
   have hOx:=au HO1.out hbx
   have hNx:(w1.alloc (.cells #[.slice a9 n9 c9] 75)).heap[w1.heap.size]? =some (.cells #[.slice a9 n9 c9] 75 (0,0)):=ai rfl
   have hRx:SolsR W.heap.size (w1.alloc (.cells #[.slice a9 n9 c9] 75)) (vs++[.slice a9 n9 c9]) (l.take k++[s]):=SolsR.snoc ⟨HR1.out.1,fun i h1 h2=>(HR1.out.2 i h1 h2).below hbx⟩ ((HS1.out.mono (by have:=hb.size;omega)).below hbx)
   have HOx:=YJ hOx
   have HNx:=YJ hNx
   have HRx:=YJ hRx
   have zx:=hb.size
   have zx1:=hb1.size
   clear hOx hNx hRx HO1 HR1 HS1
   rw[←HTk.out]at HRx
   go_wp2_with (at_builtin;refine fq _ rfl _ _ 22 rfl W.heap.size 75 i1 (.agg #[.slice none 0 0]) 1 24 Qk Hi1.out.1 Hi1.out.2.1 Hi1.out.2.2.1 Hi1.out.2.2.2 rfl (by decide) _ k vs rfl HOx.out ⟨w1.heap.size,0,none⟩ 1 1 [.slice a9 n9 c9] rfl rfl ?c1 ?c2 ?c3 ?c4 ?c5 ?_)
   case c1=>
    intro j u hu
    rw[jY,bq HNx.out]
    simpa using hu
   case c2=>
    intro u hu
    simp at hu
    subst hu
    rfl
   case c3=>unfold maxLen;omega
   case c4=>omega
   case c5=>simp;omega
   intro v' w4 hown4 hg4 _
   have hb4:Below W.heap.size W w4:=(fB hw1 hbx).grown hg4 (by simp;omega) (fun z hz=>(HOx.out.lt z hz).1)
   have HR4:Hid (SolsR W.heap.size w4 (vs++[.slice a9 n9 c9]) (l.take (k+1))):=YJ ⟨HRx.out.1,fun i h1 h2=>(HRx.out.2 i h1 h2).kept hg4 (fun g cs h1 h2=>jC HOx.out g cs h1 h2)⟩
   have HO4:=YJ hown4
   clear hown4 hg4 HOx HNx HRx hbx
   go_wp2
   go_roundw
   case rel=>exact⟨k+1,by omega,by go_num,hb4,_,HO4,HR4⟩
   simp[intOf];try omega
  ·obtain rfl:n=k:=by omega
   have HRn:=HR
   rw[HTn.out]at HRn
   clear HX HLn HT HR
   go_wp2
   go_ret
   exact⟨_,rfl,hb,Qv HO.out HN.out.symm HRn.out⟩
theorem SN {w:World} {B n k:Nat} {e:TypeId} {v x:Value} {xs:List Value} (h:w.ownsRow B e 1 v n xs) (hx:xs[k]? =some x):∃g c,v= .slice (some ⟨g,0,none⟩) n c∧w.cell? ⟨g,k,none⟩=some x∧g<w.heap.size:=by
 have hl:=h.1
 have hk:=(List.getElem?_eq_some_iff.1 hx).1
 rcases id h.2 with⟨rfl,h0⟩|⟨g,cap,cur,rfl,hb,hh,_⟩
 ·omega
 ·have:=World.ownsRow.cells h rfl k x hx
  rw[jY]at this
  exact⟨g,cap,rfl,this,ah hh⟩
theorem Td:(Tryz.prog.info? 3).map (fun i=>(i.zero,i.size,i.bytes))=some (some (.int .i64 0),1,8):=by kernel_rfl
theorem Te:Tryz.prog.underlying 34=some (.slice 3):=by kernel_rfl
def dts (ps:List Q4) (w:Q3):List Value:=ps.map fun p=> .int .i64 (bj (nrm p) w)
theorem Th {p:Q4} {x y z:Int} (h:bI p) (hx: -1≤x∧x≤1) (hy: -1≤y∧y≤1) (hz: -1≤z∧z≤1): -24≤bj (nrm p) (x,y,z)∧bj (nrm p) (x,y,z)≤24:=by
 have m0:=aJ h.1.1 h.1.2 hx.1 hx.2
 have m1:=aJ h.2.1.1 h.2.1.2 hy.1 hy.2
 have m2:=aJ h.2.2.1.1 h.2.2.1.2 hz.1 hz.2
 show -24≤p.1*x+p.2.1*y+p.2.2.1*z∧p.1*x+p.2.1*y+p.2.2.1*z≤24
 omega
def SwP (L:List Q4) (W:World) (e:Ending) (w':World):Prop:=∃v,e= .returned v∧Below W.heap.size W w'∧w'.ownsRow W.heap.size 190 4 v L.length (L.flatMap aH)
theorem Tf (ps:List Q4) (pv:Value) (x y z:Int) (W:World) (hps:∀p∈ps,bI p) (hl:ps.length≤16) (hx: -1≤x∧x≤1) (hy: -1≤y∧y≤1) (hz: -1≤z∧z≤1) (h:Q4s W pv ps):
  Calls Tryz.prog 142 #[.agg #[pv],V3 x y z] W (SwP (TD ps (x,y,z)) W):=by
 obtain⟨i0,hi0,hz0,hz1,hz2⟩:=info_parts cY
 have Hi0:=YJ (And.intro hi0 (And.intro hz0 (And.intro hz1 hz2)))
 obtain⟨i1,hj0,hy0,hy1,hy2⟩:=info_parts Td
 have Hi1:=YJ (And.intro hj0 (And.intro hy0 (And.intro hy1 hy2)))
 clear hi0 hz0 hz1 hz2 hj0 hy0 hy1 hy2
 obtain⟨pa,n,pc,rfl,hn, -,hpx⟩:=h
 have HX:=YJ hpx
 have HN:=YJ hn
 have hn16:n≤16:=by omega
 have HPs:=fun i (h:i<ps.length)=>YJ (hps _ (qaB h))
 have HL1:=fun i (h:i<ps.length)=>YJ (Ta ps (x,y,z) i h)
 have HRi:=fun i (h:i<ps.length)=>YJ (SL ps (x,y,z) i h)
 have HRk:=fun q i (h:i<ps.length)=>YJ (SM ps (x,y,z) q i h)
 have HTk:Hid (ps.take n=ps):=YJ (by rw[←hn];exact qgi)
 have HD:=fun i (h:i<ps.length)=>YJ (show dts (ps.take (i+1)) (x,y,z)=dts (ps.take i) (x,y,z)++[.int .i64 (bj (nrm ps[i]) (x,y,z))] by unfold dts;rw[qaI h,qgh];rfl)
 have HDl:=fun i (h:i≤n)=>YJ (show(dts (ps.take i) (x,y,z)).length=i by unfold dts;rw[qdo,qge];omega)
 have HLl:Hid (∀i,(IH (ps.take i) (x,y,z)).length≤16):=YJ (fun i=>by
  unfold IH
  have h1:=qdz (fun x_1=>decide (bj (nrm x_1) (x,y,z)≤0)) (ps.take i)
  have h2:=List.length_take_le i ps
  have h3:(ps.take i).length≤ps.length:=by rw[qge];omega
  omega)
 have HLr:=YJ (fun q k j=>show(IH ps (x,y,z)++TE ps (x,y,z) k++TM ps (x,y,z) q j).length≤300 from by
  have h1:=HLl.out n
  rw[HTk.out]at h1
  have h2:=Tc ps (x,y,z) k hl
  have h3:=Sv ps (x,y,z) q j hl
  rw[qaE,qaE]
  omega)
 have HFin:Hid (TD ps (x,y,z)=IH ps (x,y,z)++TE ps (x,y,z) n):=YJ (by unfold TD;rw[hn])
 have HR0:Hid (TE ps (x,y,z) 0=[]):=YJ rfl
 have HK0:=fun q=>YJ (show TM ps (x,y,z) q 0=[]from rfl)
 have HDat:=fun i (h:i<ps.length)=>YJ (show(dts ps (x,y,z))[i]? =some (.int .i64 (bj (nrm ps[i]) (x,y,z))) by unfold dts;simp[h])
 clear hpx hn hps hl
 obtain⟨V,HV⟩:∃V,Hid ((W.alloc (.cells #[.slice pa n pc] 164)).alloc (.cells #[.int .i64 x, .int .i64 y, .int .i64 z] 58)=V):=⟨_,YJ rfl⟩
 have hV:Below W.heap.size W V:=by rw[←HV.out];exact bel
 have BC:Hid (V.heap[W.heap.size]? =some (.cells #[.slice pa n pc] 164 (0,0))):=YJ (by rw[←HV.out];exact(aB (by simp)).trans (ai rfl))
 have BY:Hid (V.heap[W.heap.size+1]? =some (.cells #[.int .i64 x, .int .i64 y, .int .i64 z] 58 (0,0))):=YJ (by rw[←HV.out];exact ai (by simp))
 have zV:V.heap.size=W.heap.size+2:=by rw[←HV.out];simp
 go_enter Tryz.func142,Tryz.ntmps142
 go_wp2
 try rw[HV.out]
 go_loopw [5,6,7] (fun o a i wr=>∃k:Nat,k≤n∧i= .int .i64 k∧Below V.heap.size V wr∧Hid (wr.ownsRow (W.heap.size+2) 3 1 a k (dts (ps.take k) (x,y,z)))∧Hid (wr.ownsRow (W.heap.size+2) 190 4 o (IH (ps.take k) (x,y,z)).length ((IH (ps.take k) (x,y,z)).flatMap aH))) (fun _ _ i _=>n-(intOf i).toNat)
 case atStart=>exact⟨0,by omega,rfl,brf,YJ (qds _ _ _ _),YJ (qds _ _ _ _)⟩
 case round=>
  obtain⟨k,hk,rfl,hb,HA,HO⟩:=hrel
  have hCr:=(hb.block _ (ah BC.out)).trans BC.out
  have hYr:=(hb.block _ (ah BY.out)).trans BY.out
  have c0:wr.cell? ⟨W.heap.size,0,none⟩=some (.slice pa n pc):=(bq hCr 0).trans rfl
  have cz:=ah hCr
  obtain⟨w0,w1,w2,wf,wz⟩:=NO hYr
  have zr:W.heap.size+2≤wr.heap.size:=by have:=hb.size;omega
  obtain⟨aa,ac,rfl⟩:=aT HA.out
  obtain⟨oa,oc,rfl⟩:=aT HO.out
  by_cases hlt:k<n
  ·have g1:(k:Int)<(n:Int):=by omega
   have g2:(0:Int)≤(k:Int):=by omega
   have hil:k<ps.length:=by have:=HN.out;omega
   obtain⟨b,off,rfl,hi4⟩:=HX.out (by omega)
   obtain⟨d0,d1,d2,d3⟩:=(hi4.below (fB hV hb)) k hil
   have HDk:=HD k hil
   have HLk:=HL1 k hil
   have hok:=(HPs k hil).out
   have HLb:=YJ (HLl.out k)
   have HDlk:=HDl k hk
   clear hi4 HX HD HL1 HPs HRi HRk HTk HLl HDl
   generalize ps[k]=p at*
   obtain⟨p0,p1,p2,p3⟩:=p
   simp only at d0 d1 d2 d3
   have dz:=qaC wr _ d0
   simp only at dz
   have m0:=aJ hok.1.1 hok.1.2 hx.1 hx.2
   have m1:=aJ hok.2.1.1 hok.2.1.2 hy.1 hy.2
   have m2:=aJ hok.2.2.1.1 hok.2.2.1.2 hz.1 hz.2
   simp only[Int.reduceMul,Int.reduceNeg]at m0 m1 m2
   have Hdt:Hid (bj (nrm (p0,p1,p2,p3)) (x,y,z)=p0*x+p1*y+p2*z):=YJ rfl
   rw[Hdt.out]at HDk HLk
   have hbB:Below wr.heap.size wr ((wr.alloc (.cells #[.int .i64 p0, .int .i64 p1, .int .i64 p2, .int .i64 p3] 190)).alloc (.cells #[.int .i64 (p0*x+p1*y+p2*z)] 3)):=bel
   have HAB:=YJ (au HA.out hbB)
   have HOB:=YJ (au HO.out hbB)
   have HNB:Hid (((wr.alloc (.cells #[.int .i64 p0, .int .i64 p1, .int .i64 p2, .int .i64 p3] 190)).alloc (.cells #[.int .i64 (p0*x+p1*y+p2*z)] 3)).heap[wr.heap.size+1]? =some (.cells #[.int .i64 (p0*x+p1*y+p2*z)] 3 (0,0))):=YJ (ai (by simp))
   have HPB:Hid (((wr.alloc (.cells #[.int .i64 p0, .int .i64 p1, .int .i64 p2, .int .i64 p3] 190)).alloc (.cells #[.int .i64 (p0*x+p1*y+p2*z)] 3)).heap[wr.heap.size]? =some (.cells #[.int .i64 p0, .int .i64 p1, .int .i64 p2, .int .i64 p3] 190 (0,0))):=YJ ((aB (by simp)).trans (ai rfl))
   clear hCr hYr HA HO
   go_wp2_with (at_builtin;refine wpList_append_own _ rfl _ _ 34 rfl (W.heap.size+2) 3 i1 (.int .i64 0) 1 8 Te Hi1.out.1 Hi1.out.2.1 Hi1.out.2.2.1 Hi1.out.2.2.2 rfl (by decide) _ k _ rfl HAB.out ⟨wr.heap.size+1,0,none⟩ 1 1 [.int .i64 (p0*x+p1*y+p2*z)] rfl rfl ?c1 ?c2 ?c3 ?c4 ?c5 ?_)
   case c1=>
    intro j u hu
    rw[jY,bq HNB.out]
    simpa using hu
   case c2=>
    intro u hu
    simp at hu
    subst hu
    rfl
   case c3=>unfold maxLen;omega
   case c4=>omega
   case c5=>simp;omega
   intro v4 w4 hown4 hg4 _
   have hb4:Below V.heap.size V w4:=(fB hb hbB).grown hg4 (by have:=hb.size;simp;omega) (fun z hz=>by have:=(HAB.out.lt z hz).1;omega)
   have HO4:=YJ (Qu HOB.out hg4 (fun g cs h1 h2=>by obtain⟨c,t,h3,h4⟩:=jC HAB.out g cs h1 h2;exact⟨c,t,h3,by rw[h4];decide⟩))
   have HP4:=YJ ((hg4.block _ (ah HPB.out) (fun e=>aG HAB.out HPB.out (by decide) e.symm)).trans HPB.out)
   have hown4':w4.ownsRow (W.heap.size+2) 3 1 v4 (k+1) (dts (ps.take (k+1)) (x,y,z)):=by rw[HDk.out];exact hown4
   obtain⟨ga,ca,rfl,ea,za⟩:=SN hown4 (k:=k) (x:= .int .i64 (p0*x+p1*y+p2*z)) (by rw[List.getElem?_append_right (by rw[HDlk.out];exact qaA _),HDlk.out,Nat.sub_self];rfl)
   have HA4:=YJ hown4'
   have zw4:=hg4.size
   clear hown4 hown4' hg4 HAB HOB HNB HPB hbB c0 cz w0 w1 w2 wf wz d0 d1 d2 d3 dz
   have q1:(k:Int)<((k+1:Nat):Int):=by omega
   obtain⟨e0,e1,e2,e3,ef,ez⟩:=am HP4.out
   by_cases hd:p0*x+p1*y+p2*z≤0
   ·rw[if_pos hd]at HLk
    have hlnb:=HLb.out
    have hbX:Below w4.heap.size w4 (w4.alloc (.cells #[.int .i64 p0, .int .i64 p1, .int .i64 p2, .int .i64 p3] 190)):=bel
    have HOX:=YJ (au HO4.out hbX)
    have HAX:=YJ (au HA4.out hbX)
    have HNX:Hid ((w4.alloc (.cells #[.int .i64 p0, .int .i64 p1, .int .i64 p2, .int .i64 p3] 190)).heap[w4.heap.size]? =some (.cells #[.int .i64 p0, .int .i64 p1, .int .i64 p2, .int .i64 p3] 190 (0,0))):=YJ (ai rfl)
    clear HO4 HA4 HP4
    go_wp2_with (at_builtin;refine wpList_append_own _ rfl _ _ 162 rfl (W.heap.size+2) 190 i0 (v4 (0,0,0,0)) 4 32 Oc Hi0.out.1 Hi0.out.2.1 Hi0.out.2.2.1 Hi0.out.2.2.2 rfl (by decide) _ _ _ rfl HOX.out ⟨w4.heap.size,0,none⟩ 1 1 [.int .i64 p0, .int .i64 p1, .int .i64 p2, .int .i64 p3] rfl rfl ?c1 ?c2 ?c3 ?c4 ?c5 ?_)
    case c1=>
     intro j u hu
     rw[jY,bq HNX.out]
     simpa using hu
    case c2=>
     intro u hu
     simp at hu
     rcases hu with rfl|rfl|rfl|rfl<;>rfl
    case c3=>unfold maxLen;omega
    case c4=>omega
    case c5=>have:=hb4.size;simp;omega
    intro v6 w6 hown6 hg6 _
    have hb6:Below V.heap.size V w6:=(fB hb4 hbX).grown hg6 (by have:=hb4.size;simp;omega) (fun z hz=>by have:=(HOX.out.lt z hz).1;omega)
    have HA6:=YJ (Qu HAX.out hg6 (fun g cs h1 h2=>by obtain⟨c,t,h3,h4⟩:=jC HOX.out g cs h1 h2;exact⟨c,t,h3,by rw[h4];decide⟩))
    have HO6:Hid (w6.ownsRow (W.heap.size+2) 190 4 v6 (IH (ps.take (k+1)) (x,y,z)).length ((IH (ps.take (k+1)) (x,y,z)).flatMap aH)):=YJ (by rw[HLk.out,qaE,qgj];exact hown6)
    clear hown6 hg6 HOX HAX HNX e0 e1 e2 e3 ef ez ea za
    go_wp2
    go_roundw
    case rel=>exact⟨k+1,by omega,by go_num,hb6,HA6,HO6⟩
    simp[intOf];try omega
   ·rw[if_neg hd,qgd]at HLk
    go_wp2
    go_roundw
    case rel=>exact⟨k+1,by omega,by go_num,hb4,HA4,by rw[HLk.out];exact HO4⟩
    simp[intOf];try omega
  ·obtain rfl:n=k:=by omega
   rw[HTk.out]at HA HO ⊢
   clear hCr hYr HL1 HD HDl w0 w1 w2 wf wz HLl
   rename World=>wA
   go_wp2
   go_loopw [5,9] (fun o i wr=>∃k:Nat,k≤n∧i= .int .i64 k∧Below V.heap.size V wr∧Hid (wr.ownsRow (W.heap.size+2) 3 1 (.slice aa n ac) n (dts ps (x,y,z)))∧Hid (wr.ownsRow (W.heap.size+2) 190 4 o (IH ps (x,y,z)++TE ps (x,y,z) k).length ((IH ps (x,y,z)++TE ps (x,y,z) k).flatMap aH))) (fun _ i _=>n-(intOf i).toNat)
   case atStart=>exact⟨0,by omega,rfl,hb,HA,by rw[HR0.out,qgd];exact HO⟩
   case round=>
    clear HA HO hb
    obtain⟨i,hi,rfl,hb,HA,HO⟩:=hrel
    have zr:W.heap.size+2≤wr.heap.size:=by have:=hb.size;omega
    obtain⟨oa2,oc2,rfl⟩:=aT HO.out
    by_cases hli:i<n
    ·have g3:(i:Int)<(n:Int):=by omega
     have g4:(0:Int)≤(i:Int):=by omega
     have hil:i<ps.length:=by have:=HN.out;omega
     have HRn:=HRi i hil
     go_wp2
     go_loopw [5,10] (fun o jv wr=>∃j:Nat,j≤n∧jv= .int .i64 j∧Below V.heap.size V wr∧Hid (wr.ownsRow (W.heap.size+2) 3 1 (.slice aa n ac) n (dts ps (x,y,z)))∧Hid (wr.ownsRow (W.heap.size+2) 190 4 o (IH ps (x,y,z)++TE ps (x,y,z) i++TM ps (x,y,z) ps[i] j).length ((IH ps (x,y,z)++TE ps (x,y,z) i++TM ps (x,y,z) ps[i] j).flatMap aH))) (fun _ jv _=>n-(intOf jv).toNat)
     case atStart=>exact⟨0,by omega,rfl,hb,HA,by rw[(HK0 _).out,qgd];exact HO⟩
     case round=>
      clear HA HO hb zr
      obtain⟨j,hj,rfl,hb,HA,HO⟩:=hrel
      have zr:W.heap.size+2≤wr.heap.size:=by have:=hb.size;omega
      obtain⟨oa3,oc3,rfl⟩:=aT HO.out
      by_cases hlj:j<n
      ·have g5:(j:Int)<(n:Int):=by omega
       have g6:(0:Int)≤(j:Int):=by omega
       have hjl:j<ps.length:=by have:=HN.out;omega
       have HRk':=HRk ps[i] j hjl
       obtain⟨ga,ca,e,ei,za⟩:=SN HA.out (HDat i hil).out
       cases e
       obtain⟨_,_,e,ej, -⟩:=SN HA.out (HDat j hjl).out
       cases e
       have HM:Hid (Rl (x,y,z) ps[i] ps[j]=if 0<bj (nrm ps[i]) (x,y,z)∧bj (nrm ps[j]) (x,y,z)<0∧nrm (kv ps[i] ps[j] (x,y,z))≠(0,0,0)then [dG (kv ps[i] ps[j] (x,y,z))]else []):=YJ rfl
       have HLb:=YJ (HLr.out ps[i] i j)
       have HMx:Hid (kv ps[i] ps[j] (x,y,z)=(ps[i].1* -(bj (nrm ps[j]) (x,y,z))+ps[j].1*bj (nrm ps[i]) (x,y,z),ps[i].2.1* -(bj (nrm ps[j]) (x,y,z))+ps[j].2.1*bj (nrm ps[i]) (x,y,z),ps[i].2.2.1* -(bj (nrm ps[j]) (x,y,z))+ps[j].2.2.1*bj (nrm ps[i]) (x,y,z),ps[i].2.2.2* -(bj (nrm ps[j]) (x,y,z))+ps[j].2.2.2*bj (nrm ps[i]) (x,y,z))):=YJ rfl
       have okP:=(HPs i hil).out
       have okQ:=(HPs j hjl).out
       have bdi:=Th okP hx hy hz
       have bdj:=Th okQ hx hy hz
       obtain⟨b,off,rfl,hi4⟩:=HX.out (by omega)
       obtain⟨d0,d1,d2,d3⟩:=(hi4.below (fB hV hb)) i hil
       obtain⟨f0,f1,f2,f3⟩:=(hi4.below (fB hV hb)) j hjl
       have hCr:=(hb.block _ (ah BC.out)).trans BC.out
       have c0':wr.cell? ⟨W.heap.size,0,none⟩=some (.slice (some ⟨b,off,none⟩) n pc):=(bq hCr 0).trans rfl
       have cz':=ah hCr
       clear hi4 hCr HX HPs HDat HRi HRk HLr HRn HK0 HR0
       rw[HM.out]at HRk'
       clear HM
       obtain⟨SR,HSR⟩:∃SR,Hid (IH ps (x,y,z)++TE ps (x,y,z) i++TM ps (x,y,z) ps[i] j=SR):=⟨_,YJ rfl⟩
       have HRj:Hid (IH ps (x,y,z)++TE ps (x,y,z) i++TM ps (x,y,z) ps[i] (j+1)=SR++if 0<bj (nrm ps[i]) (x,y,z)∧bj (nrm ps[j]) (x,y,z)<0∧nrm (kv ps[i] ps[j] (x,y,z))≠(0,0,0)then [dG (kv ps[i] ps[j] (x,y,z))]else []):=YJ (by rw[HRk'.out, ←HSR.out,List.append_assoc,List.append_assoc,List.append_assoc])
       rw[HSR.out]at HO HLb ⊢
       clear HRk' HSR
       generalize bj (nrm ps[i]) (x,y,z)=di at*
       generalize bj (nrm ps[j]) (x,y,z)=dj at*
       generalize kv ps[i] ps[j] (x,y,z)=M at*
       unfold bI at okP okQ
       generalize ps[i].1=p0 at*
       generalize ps[i].2.1=p1 at*
       generalize ps[i].2.2.1=p2 at*
       generalize ps[i].2.2.2=p3 at*
       generalize ps[j].1=q0 at*
       generalize ps[j].2.1=q1 at*
       generalize ps[j].2.2.1=q2 at*
       generalize ps[j].2.2.2=q3 at*
       have hlb:=HLb.out
       by_cases h1:0<di
       ·by_cases h2:dj<0
        ·have dz:=qaC wr _ d0
         simp only at dz
         obtain⟨m,hm⟩:∃m:Int,m= -dj:=⟨_,rfl⟩
         have wn:IntKind.i64.wrap (-dj)=m:=by rw[IntWalk.i64_in _ (by omega)];exact hm.symm
         have hmb:0≤m∧m≤24:=by omega
         have hdib:0≤di∧di≤24:=by omega
         have A0:=aJ (A:=24) (by omega) hmb.2 okP.1.1 okP.1.2
         have A1:=aJ (A:=24) (by omega) hmb.2 okP.2.1.1 okP.2.1.2
         have A2:=aJ (A:=24) (by omega) hmb.2 okP.2.2.1.1 okP.2.2.1.2
         have A3:=aJ (A:=24) (by omega) hmb.2 okP.2.2.2.1 okP.2.2.2.2
         have B0:=aJ (A:=24) (by omega) hdib.2 okQ.1.1 okQ.1.2
         have B1:=aJ (A:=24) (by omega) hdib.2 okQ.2.1.1 okQ.2.1.2
         have B2:=aJ (A:=24) (by omega) hdib.2 okQ.2.2.1.1 okQ.2.2.1.2
         have B3:=aJ (A:=24) (by omega) hdib.2 okQ.2.2.2.1 okQ.2.2.2.2
         simp only[Int.reduceMul,Int.reduceNeg]at A0 A1 A2 A3 B0 B1 B2 B3
         have HMx':Hid (M=(m*p0+di*q0,m*p1+di*q1,m*p2+di*q2,m*p3+di*q3)):=YJ (by rw[HMx.out,hm];simp only[Prod.mk.injEq];refine⟨?_, ?_, ?_, ?_⟩<;>grind)
         have Hm:=YJ hm
         clear HMx hm
         go_wp2
         go_cut [11,12] (fun s11 s12 wx=>∃g h,s11= .pointer (some ⟨g,0,none⟩)∧s12= .pointer (some ⟨h,0,none⟩)∧wx.heap[g]? =some (.cells #[.int .i64 p0, .int .i64 p1, .int .i64 p2, .int .i64 p3] 190 (0,0))∧wx.heap[h]? =some (.cells #[.int .i64 q0, .int .i64 q1, .int .i64 q2, .int .i64 q3] 190 (0,0))∧Below wr.heap.size wr wx)
         case first=>
          go_region_held (fun w'=>w'.cell? ⟨W.heap.size,0,none⟩=some (.slice (some ⟨b,off,none⟩) n pc)∧w'.cell? ⟨b,off+i*4,none⟩=some (.int .i64 p0)∧w'.cell? ⟨b,off+i*4+1,none⟩=some (.int .i64 p1)∧w'.cell? ⟨b,off+i*4+2,none⟩=some (.int .i64 p2)∧w'.cell? ⟨b,off+i*4+3,none⟩=some (.int .i64 p3)∧w'.cell? ⟨b,off+j*4,none⟩=some (.int .i64 q0)∧w'.cell? ⟨b,off+j*4+1,none⟩=some (.int .i64 q1)∧w'.cell? ⟨b,off+j*4+2,none⟩=some (.int .i64 q2)∧w'.cell? ⟨b,off+j*4+3,none⟩=some (.int .i64 q3)) (exact⟨ab bel c0',ab bel d0,ab bel d1,ab bel d2,ab bel d3,ab bel f0,ab bel f1,ab bel f2,ab bel f3⟩) (fail)
          all_goals (go_wp2_with fail;go_meet;refine⟨_,_,rfl,rfl, ?_, ?_,bel⟩<;>first|exact ai (by simp;done)|exact(aB (by simp;done)).trans (ai rfl))
         case rest=>
          rename World=>wx
          obtain⟨g,h,rfl,rfl,hG,hH,hbx⟩:=hcut
          have HG:=YJ hG
          have HH:=YJ hH
          have HAx:=YJ (au HA.out hbx)
          have HOx:=YJ (au HO.out hbx)
          have hbV:Below V.heap.size V wx:=fB hb hbx
          have zx:W.heap.size+2≤wx.heap.size:=qaD zr hbx.size
          have ei:=ab hbx ei
          have ej:=ab hbx ej
          have za:=qaG za hbx.size
          clear hG hH HA HO hb hbx zr c0' cz' d0 d1 d2 d3 f0 f1 f2 f3 dz c0 cz
          go_wp2
          apply aj [9] [0,1,2,3,4,5,6,7,8,9] 10 [] [sv _,sv _,sv _,sv _,sv _,sv _,sv _,sv _,sv _,sv _] (by kernel_rfl) (by kernel_rfl)
          iterate 9 ((try go_frame);refine wkQ ?_)
          try go_frame
          refine wkz rfl rfl rfl rfl ?_
          apply Exists.intro
          apply And.intro
          ·intro w9
           go_simp
           try rfl
          refine⟨rfl, ?_⟩
          try go_frame
          refine aI (fun u hR=> ?_)
          have HG2:=YJ ((u.below.block _ (ah HG.out)).trans HG.out)
          have HH2:=YJ ((u.below.block _ (ah HH.out)).trans HH.out)
          have HA2:=YJ (au HAx.out u.below)
          have HO2:=YJ (au HOx.out u.below)
          have hb2:=fB hbV u.below
          have z2:W.heap.size+2≤u.val.heap.size:=qaD zx u.below.size
          clear hR HG HH HAx HOx hbV zx ei ej za
          generalize u.val=w3 at*
          clear u
          simp only[oas]
          go_wp2
          refine NoPanic.normal ?_
          obtain⟨d0,d1,d2,d3,df,dz⟩:=am HG2.out
          obtain⟨f0,f1,f2,f3,ff,fz⟩:=am HH2.out
          rw[HMx'.out]at HRj
          have hlow:=fun(hne:m*p0+di*q0≠0∨m*p1+di*q1≠0∨m*p2+di*q2≠0) W'=>YJ (Sy (m*p0+di*q0) (m*p1+di*q1) (m*p2+di*q2) (m*p3+di*q3) W' (by omega) (by omega) (by omega) (by omega) hne)
          have hcon:∀hne:m*p0+di*q0≠0∨m*p1+di*q1≠0∨m*p2+di*q2≠0,Hid (IH ps (x,y,z)++TE ps (x,y,z) i++TM ps (x,y,z) ps[i] (j+1)=SR++[dG (m*p0+di*q0,m*p1+di*q1,m*p2+di*q2,m*p3+di*q3)]):=fun hne=>YJ (by rw[HRj.out,if_pos ⟨h1,h2,fun e=>by simp[nrm]at e;omega⟩])
          have HLow:=YJ hlow
          have HCon:=YJ hcon
          clear hlow hcon HMx'
          by_cases n0:m*p0+di*q0=0
          ·have k0:(m*p0+di*q0 !=0)=false:=by simp[n0]
           by_cases n1:m*p1+di*q1=0
           ·have k1:(m*p1+di*q1 !=0)=false:=by simp[n1]
            by_cases n2:m*p2+di*q2=0
            ·have k2:(m*p2+di*q2 !=0)=false:=by simp[n2]
             have HF:Hid (IH ps (x,y,z)++TE ps (x,y,z) i++TM ps (x,y,z) ps[i] (j+1)=SR):=YJ (by rw[HRj.out,if_neg (fun h=>h.2.2 (by simp[nrm,n0,n1,n2])),qgd])
             have HO3:=HO2
             clear HLow HCon n0 n1 n2 HRj
             go_wp2
             go_roundw
             case rel=>exact⟨j+1,by omega,by go_num,fB hb2 bel,YJ (au HA2.out bel),YJ (by rw[HF.out];exact au HO3.out bel)⟩
             simp[intOf];try omega
            ·have k2:(m*p2+di*q2 !=0)=true:=by simp[n2]
             have HLo:=fun W'=>YJ (HLow.out (.inr (.inr n2)) W').out
             have HF:=HCon.out (.inr (.inr n2))
             clear HLow HCon n0 n1 n2 HRj
             go_wp2_with fail
             refine((HLo _).out).mono ?_
             rintro e w5 ⟨rfl,hb5⟩
             have hb3:Below w3.heap.size w3 w5:=fB bel hb5
             have HO5:=YJ (au HO2.out hb3)
             have HA5:=YJ (au HA2.out hb3)
             have hbV5:=fB hb2 hb3
             have z5:W.heap.size+2≤w5.heap.size:=qaD z2 hb3.size
             clear HO2 HA2 hb2 z2 d0 d1 d2 d3 df dz f0 f1 f2 f3 ff fz HG2 HH2 HLo hb5
             obtain⟨⟨l0,l1,l2,l3⟩,HL⟩:∃L,Hid (dG (m*p0+di*q0,m*p1+di*q1,m*p2+di*q2,m*p3+di*q3)=L):=⟨_,YJ rfl⟩
             rw[HL.out]at HF ⊢
             have hbX:Below w5.heap.size w5 (w5.alloc (.cells #[.int .i64 l0, .int .i64 l1, .int .i64 l2, .int .i64 l3] 190)):=bel
             have HOX:=YJ (au HO5.out hbX)
             have HAX:=YJ (au HA5.out hbX)
             have HNX:Hid ((w5.alloc (.cells #[.int .i64 l0, .int .i64 l1, .int .i64 l2, .int .i64 l3] 190)).heap[w5.heap.size]? =some (.cells #[.int .i64 l0, .int .i64 l1, .int .i64 l2, .int .i64 l3] 190 (0,0))):=YJ (ai rfl)
             go_wp2_with (at_builtin;refine wpList_append_own _ rfl _ _ 162 rfl (W.heap.size+2) 190 i0 (v4 (0,0,0,0)) 4 32 Oc Hi0.out.1 Hi0.out.2.1 Hi0.out.2.2.1 Hi0.out.2.2.2 rfl (by decide) _ _ _ rfl HOX.out ⟨w5.heap.size,0,none⟩ 1 1 [.int .i64 l0, .int .i64 l1, .int .i64 l2, .int .i64 l3] rfl rfl ?c1 ?c2 ?c3 ?c4 ?c5 ?_)
             case c1=>
              intro j u hu
              rw[jY,bq HNX.out]
              simpa using hu
             case c2=>
              intro u hu
              simp at hu
              rcases hu with rfl|rfl|rfl|rfl<;>rfl
             case c3=>unfold maxLen;omega
             case c4=>omega
             case c5=>simp;omega
             intro v6 w6 hown6 hg6 _
             have hb6:Below V.heap.size V w6:=(fB hbV5 hbX).grown hg6 (by simp;omega) (fun z hz=>by have:=(HOX.out.lt z hz).1;omega)
             have HA6:=YJ (Qu HAX.out hg6 (fun g cs h1 h2=>by obtain⟨c,t,h3,h4⟩:=jC HOX.out g cs h1 h2;exact⟨c,t,h3,by rw[h4];decide⟩))
             have HO6:=YJ hown6
             clear hown6 hg6 HOX HAX HNX HO5 HA5
             go_wp2
             go_roundw
             case rel=>exact⟨j+1,by omega,by go_num,hb6,HA6,YJ (by rw[HF.out,qaE,qgj];exact HO6.out)⟩
             simp[intOf];try omega
           ·have k1:(m*p1+di*q1 !=0)=true:=by simp[n1]
            have HLo:=fun W'=>YJ (HLow.out (.inr (.inl n1)) W').out
            have HF:=HCon.out (.inr (.inl n1))
            clear HLow HCon n0 n1 HRj
            go_wp2_with fail
            refine((HLo _).out).mono ?_
            rintro e w5 ⟨rfl,hb5⟩
            have hb3:Below w3.heap.size w3 w5:=fB bel hb5
            have HO5:=YJ (au HO2.out hb3)
            have HA5:=YJ (au HA2.out hb3)
            have hbV5:=fB hb2 hb3
            have z5:W.heap.size+2≤w5.heap.size:=qaD z2 hb3.size
            clear HO2 HA2 hb2 z2 d0 d1 d2 d3 df dz f0 f1 f2 f3 ff fz HG2 HH2 HLo hb5
            obtain⟨⟨l0,l1,l2,l3⟩,HL⟩:∃L,Hid (dG (m*p0+di*q0,m*p1+di*q1,m*p2+di*q2,m*p3+di*q3)=L):=⟨_,YJ rfl⟩
            rw[HL.out]at HF ⊢
            have hbX:Below w5.heap.size w5 (w5.alloc (.cells #[.int .i64 l0, .int .i64 l1, .int .i64 l2, .int .i64 l3] 190)):=bel
            have HOX:=YJ (au HO5.out hbX)
            have HAX:=YJ (au HA5.out hbX)
            have HNX:Hid ((w5.alloc (.cells #[.int .i64 l0, .int .i64 l1, .int .i64 l2, .int .i64 l3] 190)).heap[w5.heap.size]? =some (.cells #[.int .i64 l0, .int .i64 l1, .int .i64 l2, .int .i64 l3] 190 (0,0))):=YJ (ai rfl)
            go_wp2_with (at_builtin;refine wpList_append_own _ rfl _ _ 162 rfl (W.heap.size+2) 190 i0 (v4 (0,0,0,0)) 4 32 Oc Hi0.out.1 Hi0.out.2.1 Hi0.out.2.2.1 Hi0.out.2.2.2 rfl (by decide) _ _ _ rfl HOX.out ⟨w5.heap.size,0,none⟩ 1 1 [.int .i64 l0, .int .i64 l1, .int .i64 l2, .int .i64 l3] rfl rfl ?c1 ?c2 ?c3 ?c4 ?c5 ?_)
            case c1=>
             intro j u hu
             rw[jY,bq HNX.out]
             simpa using hu
            case c2=>
             intro u hu
             simp at hu
             rcases hu with rfl|rfl|rfl|rfl<;>rfl
            case c3=>unfold maxLen;omega
            case c4=>omega
            case c5=>simp;omega
            intro v6 w6 hown6 hg6 _
            have hb6:Below V.heap.size V w6:=(fB hbV5 hbX).grown hg6 (by simp;omega) (fun z hz=>by have:=(HOX.out.lt z hz).1;omega)
            have HA6:=YJ (Qu HAX.out hg6 (fun g cs h1 h2=>by obtain⟨c,t,h3,h4⟩:=jC HOX.out g cs h1 h2;exact⟨c,t,h3,by rw[h4];decide⟩))
            have HO6:=YJ hown6
            clear hown6 hg6 HOX HAX HNX HO5 HA5
            go_wp2
            go_roundw
            case rel=>exact⟨j+1,by omega,by go_num,hb6,HA6,YJ (by rw[HF.out,qaE,qgj];exact HO6.out)⟩
            simp[intOf];try omega
          ·have k0:(m*p0+di*q0 !=0)=true:=by simp[n0]
           have HLo:=fun W'=>YJ (HLow.out (.inl n0) W').out
           have HF:=HCon.out (.inl n0)
           clear HLow HCon n0 HRj
           go_wp2_with fail
           refine((HLo _).out).mono ?_
           rintro e w5 ⟨rfl,hb5⟩
           have hb3:Below w3.heap.size w3 w5:=fB bel hb5
           have HO5:=YJ (au HO2.out hb3)
           have HA5:=YJ (au HA2.out hb3)
           have hbV5:=fB hb2 hb3
           have z5:W.heap.size+2≤w5.heap.size:=qaD z2 hb3.size
           clear HO2 HA2 hb2 z2 d0 d1 d2 d3 df dz f0 f1 f2 f3 ff fz HG2 HH2 HLo hb5
           obtain⟨⟨l0,l1,l2,l3⟩,HL⟩:∃L,Hid (dG (m*p0+di*q0,m*p1+di*q1,m*p2+di*q2,m*p3+di*q3)=L):=⟨_,YJ rfl⟩
           rw[HL.out]at HF ⊢
           have hbX:Below w5.heap.size w5 (w5.alloc (.cells #[.int .i64 l0, .int .i64 l1, .int .i64 l2, .int .i64 l3] 190)):=bel
           have HOX:=YJ (au HO5.out hbX)
           have HAX:=YJ (au HA5.out hbX)
           have HNX:Hid ((w5.alloc (.cells #[.int .i64 l0, .int .i64 l1, .int .i64 l2, .int .i64 l3] 190)).heap[w5.heap.size]? =some (.cells #[.int .i64 l0, .int .i64 l1, .int .i64 l2, .int .i64 l3] 190 (0,0))):=YJ (ai rfl)
           go_wp2_with (at_builtin;refine wpList_append_own _ rfl _ _ 162 rfl (W.heap.size+2) 190 i0 (v4 (0,0,0,0)) 4 32 Oc Hi0.out.1 Hi0.out.2.1 Hi0.out.2.2.1 Hi0.out.2.2.2 rfl (by decide) _ _ _ rfl HOX.out ⟨w5.heap.size,0,none⟩ 1 1 [.int .i64 l0, .int .i64 l1, .int .i64 l2, .int .i64 l3] rfl rfl ?c1 ?c2 ?c3 ?c4 ?c5 ?_)
           case c1=>
            intro j u hu
            rw[jY,bq HNX.out]
            simpa using hu
           case c2=>
            intro u hu
            simp at hu
            rcases hu with rfl|rfl|rfl|rfl<;>rfl
           case c3=>unfold maxLen;omega
           case c4=>omega
           case c5=>simp;omega
           intro v6 w6 hown6 hg6 _
           have hb6:Below V.heap.size V w6:=(fB hbV5 hbX).grown hg6 (by simp;omega) (fun z hz=>by have:=(HOX.out.lt z hz).1;omega)
           have HA6:=YJ (Qu HAX.out hg6 (fun g cs h1 h2=>by obtain⟨c,t,h3,h4⟩:=jC HOX.out g cs h1 h2;exact⟨c,t,h3,by rw[h4];decide⟩))
           have HO6:=YJ hown6
           clear hown6 hg6 HOX HAX HNX HO5 HA5
           go_wp2
           go_roundw
           case rel=>exact⟨j+1,by omega,by go_num,hb6,HA6,YJ (by rw[HF.out,qaE,qgj];exact HO6.out)⟩
           simp[intOf];try omega
        ·have HF:Hid (IH ps (x,y,z)++TE ps (x,y,z) i++TM ps (x,y,z) ps[i] (j+1)=SR):=YJ (by rw[HRj.out,if_neg (fun h=>h2 h.2.1),qgd])
         clear HMx HRj
         go_wp2
         go_roundw
         case rel=>exact⟨j+1,by omega,by go_num,hb,HA,YJ (by rw[HF.out];exact HO.out)⟩
         simp[intOf];try omega
       ·have HF:Hid (IH ps (x,y,z)++TE ps (x,y,z) i++TM ps (x,y,z) ps[i] (j+1)=SR):=YJ (by rw[HRj.out,if_neg (fun h=>h1 h.1),qgd])
        clear HMx HRj
        go_wp2
        go_roundw
        case rel=>exact⟨j+1,by omega,by go_num,hb,HA,YJ (by rw[HF.out];exact HO.out)⟩
        simp[intOf];try omega
      ·obtain rfl:n=j:=by omega
       have HF:Hid (IH ps (x,y,z)++TE ps (x,y,z) i++TM ps (x,y,z) ps[i] n=IH ps (x,y,z)++TE ps (x,y,z) (i+1)):=YJ (by rw[HRn.out,List.append_assoc,HN.out])
       rw[HF.out]at HO
       clear HX HPs HDat HRi HRk HLr
       go_wp2
       go_roundw
       case rel=>exact⟨i+1,by omega,by go_num,hb,HA,by rw[←HF.out];rw[HF.out];exact HO⟩
       simp[intOf];try omega
    ·obtain rfl:n=i:=by omega
     rw[←HFin.out]at HO
     clear HX HPs HDat HRi HRk HLr
     go_wp2
     go_ret
     refine⟨_,rfl,fB hV hb, ?_⟩
     have hO:=AY HO.out (show W.heap.size≤W.heap.size+2 by omega)
     first|exact hO|(rw[HFin.out]at hO ⊢;exact hO)
def je (B:Nat):Value→World→Prop:=fun v w=>∃g,v= .slice (some ⟨g,0,none⟩) 0 0∧B≤g∧w.heap[g]? =some (.cells #[] 190 (0,0))
theorem gO (B:Nat):dR (je B):=fun _ _ _ hb ⟨g,h1,h2,h3⟩=>⟨g,h1,h2,(hb.block g (ah h3)).trans h3⟩
def qdO (p:Q4):Value→World→Prop:=fun v w=>∃g,v= .slice (some ⟨g,0,none⟩) 1 1∧w.heap[g]? =some (.cells (aH p).toArray 190 (0,0))
theorem gP (p:Q4):dR (qdO p):=fun _ _ _ hb ⟨g,h1,h2⟩=>⟨g,h1,(hb.block g (ah h2)).trans h2⟩
theorem gQ {w:World} {g:Nat} {p:Q4} (h:w.heap[g]? =some (.cells (aH p).toArray 190 (0,0))):∀j u,([p].flatMap aH)[j]? =some u→w.cell? ((⟨g,0,none⟩:Addr).add j)=some u:=fun j u hu=>by
 rw[jY,bq h]
 simpa using hu
theorem jf {ops:Array Oper} {rest:List Oper} {o:Oper} {a:Act} {Q:Exit→Act→World→Prop} {w W:World} {B n m c:Nat} {L ds:List Q4} {v:Value} {ad:Addr} (hown:w.ownsRow B 190 4 v n (L.flatMap aH)) (hb:Below B W w) (hB:B≤w.heap.size) (hm:m=ds.length)
  (hsrc:∀j u,(ds.flatMap aH)[j]? =some u→w.cell? (ad.add j)=some u) (s x:Operand) (hgd:o.guard=none) (ho:o.op= .call {callee:= .builtin .append,args:=#[s,x],argTypes:=#[162,162]}) (hs:a.eval s=v) (hx:a.eval x= .slice (some ad) m c) (hn:n+m≤100000)
  (h:∀v' w',w'.ownsRow B 190 4 v' (L++ds).length ((L++ds).flatMap aH)→Below B W w'→wpList Tryz.prog ops Q rest (a.put o.dst v') w'):wpList Tryz.prog ops Q (o::rest) a w:=by
 obtain⟨i0,hi0,hz0,hz1,hz2⟩:=info_parts cY
 have hl:=hown.1
 rw[bh]at hl
 obtain rfl:n=L.length:=by omega
 subst hm
 refine wpList_append_own w hgd s x 162 ho B 190 i0 (v4 (0,0,0,0)) 4 32 TA hi0 hz0 hz1 hz2 rfl (by decide) v _ (L.flatMap aH) hs hown ad ds.length c (ds.flatMap aH) hx (bh ds) hsrc (fun u hu=> ?_) (by unfold maxLen;omega) (by omega) hB fun v' w' h1 h2 _=>h v' w' ?_ (hb.grown h2 hB (fun z hz=>(hown.lt z hz).1))
 ·obtain⟨x,_,h⟩:=List.mem_flatMap.1 hu
  simp[aH]at h
  rcases h with rfl|rfl|rfl|rfl<;>rfl
 ·rw[qaE,qgj]
  exact h1
theorem pW (ps:List Q4) (pv:Value) (W:World) (hps:∀p∈ps,cI p) (hl:ps.length≤64) (hpv:Q4s W pv ps):
  Calls Tryz.prog 143 #[pv] W fun e w'=>∃r,e= .returned r∧Below W.heap.size W w'∧w'.ownsRow W.heap.size 190 4 r (ch ps).length ((ch ps).flatMap aH):=by
 obtain⟨i0,Hi0⟩:=qfT cY
 have hps':∀p∈ps,bI p:=fun p hp=>(hps p hp).1
 have HPt:=YJ (WH ps pv W hps' hl hpv)
 obtain⟨a,n,cc,rfl,hn,_,hx⟩:=hpv
 have HX:Hid (0<n→∃b off,a=some ⟨b,off,none⟩∧Q4At W b off ps):=YJ hx
 have HL:=fun i (h:i<ps.length) W'=>YJ (tF ps[i] W' (hps _ (qaB h)))
 have Hco:=fun i (h:i<ps.length) k (hk:k<(ct ps).length) W'=>YJ (sA (dG ps[i]) (ct ps)[k] W' (xJ _ (hps' _ (qaB h))) (tE hps' _ (qaB hk)))
 have hcl:=Qc hl
 have Hcn:=fun p k h=>YJ (rx p (ct ps) k h)
 have Hcle:=fun p k=>YJ (show cQ p ((ct ps).take k)≤300000 from qaD (pV _ _) (by rw[qge];omega))
 have Hcall:=fun p=>YJ (show cQ p ((ct ps).take (ct ps).length)=cQ p (ct ps) by rw[qgi])
 have Hs:=fun i h=>YJ (mA (ct ps) ps i h)
 have Hnl:=fun i (h:i≤ps.length)=>YJ (qeL (ct ps) ps i h)
 have H0:Hid (iT (ct ps) ps 0=[]):=YJ rfl
 have Hfin:Hid (iT (ct ps) ps n=ch ps):=YJ (by
  unfold iT ch
  rw[←hn,qgi])
 have Hst:Hid (∀A p,dX (ct ps) A p=if 3≤cQ (dG p) (ct ps)then kp A (dG p)else A):=YJ (fun A p=>rfl)
 generalize ch ps=res at*
 generalize iT (ct ps) ps=acc at*
 generalize dX (ct ps)=stp at*
 generalize ct ps=cs at*
 clear hx hps hps'
 go_enter Tryz.func143,Tryz.ntmps143
 go_wp2_with fail
 refine(HPt.out).mono ?_
 rintro en W1 ⟨cv,rfl,hb1,hoc⟩
 have HC:=YJ (jz hoc)
 obtain⟨ca,cn,ccc,rfl,hcn,_,hcx⟩:=jz hoc
 have HCX:=YJ hcx
 have HX1:Hid (0<n→∃b off,a=some ⟨b,off,none⟩∧Q4At W1 b off ps):=YJ (fun h=>by obtain⟨b,off,e,h2⟩:=HX.out h;exact⟨b,off,e,h2.below hb1⟩)
 clear HX HPt hcx hoc HC
 have hcl':cn≤300000:=by omega
 go_wp2
 go_loopw [4,5] (fun s x wr=>∃i:Nat,i≤n∧x= .int .i64 i∧Below W1.heap.size W1 wr∧Hid (wr.ownsRow W1.heap.size 190 4 s (acc i).length ((acc i).flatMap aH))) (fun _ x _=>n-(intOf x).toNat)
 case atStart=>exact⟨0,by omega,rfl,brf,YJ (by rw[H0.out];exact qds _ _ _ _)⟩
 case round=>
  obtain⟨i,hi,rfl,hb,HO⟩:=hrel
  by_cases hlt:i<n
  ·have g1:(i:Int)<(n:Int):=by omega
   have g2:(0:Int)≤(i:Int):=by omega
   have hil:i<ps.length:=by omega
   obtain⟨b,off,rfl,hi4⟩:=HX1.out (by omega)
   obtain⟨x0,x1,x2,x3⟩:=(hi4.below hb) i hil
   have zx:=qaC wr _ x0
   simp only at zx
   have HLi:=fun W'=>YJ ((HL i hil W').out)
   have Hsd:=fun k hk W'=>YJ ((Hco i hil k hk W').out)
   have Hsi:=YJ ((Hs i hil).out.trans (Hst.out _ _))
   have hAl:=(Hnl i (by omega)).out
   have hi64:i≤64:=by omega
   generalize dG ps[i]=p at*
   generalize ps[i]=P at*
   generalize acc i=A at*
   obtain⟨P0,P1,P2,P3⟩:=P
   obtain⟨p0,p1,p2,p3⟩:=p
   simp only at x0 x1 x2 x3
   clear HL Hco Hs Hst Hnl hi4 HX1
   go_wp2_with fail
   refine((HLi _).out).mono ?_
   rintro en w2 ⟨rfl,hb2⟩
   have hbw2:=fB hb hb2
   have HO2:=YJ (au HO.out hb2)
   obtain⟨X,HXX⟩:∃X,Hid (w2.alloc (.cells #[.int .i64 p0, .int .i64 p1, .int .i64 p2, .int .i64 p3] 190)=X):=⟨_,YJ rfl⟩
   obtain⟨g6,Hg6⟩:∃g6,Hid (w2.heap.size=g6):=⟨_,YJ rfl⟩
   have hbX:Below w2.heap.size w2 X:=by rw[←HXX.out];exact bel
   have HGX:Hid (X.heap[g6]? =some (.cells #[.int .i64 p0, .int .i64 p1, .int .i64 p2, .int .i64 p3] 190 (0,0))):=YJ (by rw[←HXX.out, ←Hg6.out];exact ai rfl)
   have hbwX:=fB hbw2 hbX
   have HOX:=YJ (au HO2.out hbX)
   clear x0 x1 x2 x3 zx hb2 hbw2 HO2 HO hb HLi
   go_wp2
   rw[HXX.out,Hg6.out]
   clear HXX Hg6 hbX
   go_loopw [7,8] (fun s x wr=>∃k:Nat,k≤cn∧x= .int .i64 k∧s= .int .i64 (cQ (p0,p1,p2,p3) (cs.take k):Nat)∧Below X.heap.size X wr) (fun _ x _=>cn-(intOf x).toNat)
   case atStart=>exact⟨0,by omega,rfl,by simp[cQ],brf⟩
   case round=>
    obtain⟨k,hk,rfl,rfl,hbk⟩:=hrel
    by_cases hlk:k<cn
    ·have g3:(k:Int)<(cn:Int):=by omega
     have g4:(0:Int)≤(k:Int):=by omega
     have hkl:k<cs.length:=by omega
     obtain⟨cb,co,rfl,hc4⟩:=HCX.out (by omega)
     obtain⟨y0,y1,y2,y3⟩:=(hc4.below (fB hbwX hbk)) k hkl
     have zy:=qaC wr _ y0
     simp only at zy
     have HSk:=fun W'=>YJ ((Hsd k hkl W').out)
     have Hc:=YJ ((Hcn (p0,p1,p2,p3) k hkl).out)
     have hcle:=(Hcle (p0,p1,p2,p3) k).out
     have HGk:=YJ ((hbk.block _ (ah HGX.out)).trans HGX.out)
     obtain⟨f0,f1,f2,f3,_,fz⟩:=am HGk.out
     generalize cQ (p0,p1,p2,p3) (cs.take k)=cnt at*
     generalize sd (p0,p1,p2,p3) cs[k]=s9 at*
     generalize cs[k]=c at*
     obtain⟨c0,c1,c2,c3⟩:=c
     simp only at y0 y1 y2 y3
     clear hc4 Hsd Hcn Hcle HCX
     by_cases hs:s9=0
     ·subst hs
      rw[if_pos rfl]at Hc
      go_wp2
      refine wqb ?_
      repeat(first|go_big_quiet_step ((go_at_call 140;exact aE ((HSk _).out)))|quiet_step ((go_at_call 140;exact aE ((HSk _).out))))
      refine wqn fun u=> ?_
      go_wp2
      go_roundw
      case rel=>exact⟨k+1,by omega,by go_num,by rw[Hc.out];go_num,fB hbk u.below⟩
      simp[intOf];try omega
     ·have hs':(s9==0)=false:=by simpa using hs
      rw[if_neg hs]at Hc
      go_wp2
      refine wqb ?_
      repeat(first|go_big_quiet_step ((go_at_call 140;exact aE ((HSk _).out)))|quiet_step ((go_at_call 140;exact aE ((HSk _).out))))
      refine wqn fun u=> ?_
      go_wp2
      go_roundw
      case rel=>exact⟨k+1,by omega,by go_num,by rw[Hc.out];rfl,fB hbk u.below⟩
      simp[intOf];try omega
    ·obtain rfl:k=cn:=by omega
     have g3:¬(k:Int)<(k:Int):=by omega
     have hcall:=(Hcall (p0,p1,p2,p3)).out
     rw[hcn]at hcall
     rw[hcall]
     obtain⟨cnt,Hcnt⟩:∃cnt,Hid (cQ (p0,p1,p2,p3) cs=cnt):=⟨_,YJ rfl⟩
     rw[Hcnt.out]at Hsi ⊢
     have hcnt:cnt≤300000:=by rw[←Hcnt.out];have:=pV (p0,p1,p2,p3) cs;omega
     have Hin:=YJ (fun j (h:j<A.length) (h2:j<twN (TG (p0,p1,p2,p3)) A)=>show bD A[j] (p0,p1,p2,p3)<0 by simpa [TG]using yD (TG (p0,p1,p2,p3)) A j h h2)
     have Hout:=YJ (fun(h:twN (TG (p0,p1,p2,p3)) A<A.length)=>show ¬bD A[twN (TG (p0,p1,p2,p3)) A] (p0,p1,p2,p3)<0 by simpa [TG]using vE (TG (p0,p1,p2,p3)) A h)
     have hTl:=BF (TG (p0,p1,p2,p3)) A
     have Hend:=YJ (xM A (p0,p1,p2,p3))
     have Hmid:=YJ (xN A (p0,p1,p2,p3))
     have Hskip:=YJ (vF A (p0,p1,p2,p3))
     have Hless:=fun q W'=>YJ (pU q (p0,p1,p2,p3) W')
     generalize twN (TG (p0,p1,p2,p3)) A=T at*
     generalize kp A (p0,p1,p2,p3)=ins at*
     have hbwk:=fB hbwX hbk
     have HOk:=YJ (au HOX.out hbk)
     have HGk:=YJ ((hbk.block _ (ah HGX.out)).trans HGX.out)
     have zg6:=ah HGk.out
     obtain⟨wk,rfl⟩:∃wk:World,wk=wr:=⟨_,rfl⟩
     clear hbk HOX HGX Hcn Hcle Hcall Hsd
     rcases HOk.out.2 with⟨e,h0⟩|⟨g,cap,cur,e,hbg,hh,hnc,hcm,hcs,htk⟩
     ·subst e
      obtain rfl:A=[]:=alto.1 h0
      obtain rfl:T=0:=by simpa using hTl
      go_wp2
      go_loopw [9] (fun x wr=>x= .int .i64 0∧Below wk.heap.size wk wr) (fun _ _=>0)
      case atStart=>exact⟨rfl,brf⟩
      case round=>
       obtain⟨rfl,hbr⟩:=hrel
       have HG:=YJ ((hbr.block _ (ah HGk.out)).trans HGk.out)
       have hbw:=fB hbwk hbr
       have HO:=YJ (au HOk.out hbr)
       clear hbr HOk HGk
       obtain⟨c0,c1,c2,c3,_,cz⟩:=am HG.out
       go_wp2
       refine wqf fun u=> ?_
       have hbu:=u.below
       have HOu:=YJ (au HO.out hbu)
       have HGu:=YJ ((hbu.block _ (ah HG.out)).trans HG.out)
       have hbwu:=fB hbw hbu
       clear HO HG hbw hbu c0 c1 c2 c3 cz
       have HO:=HOu
       have HG:=HGu
       have hbw:=hbwu
       clear HOu HGu hbwu
       generalize u.val=wr at*
       clear u
       obtain⟨c0,c1,c2,c3,_,cz⟩:=am HG.out
       by_cases hc3:3≤cnt
       ·have hd3:decide ((3:Int)≤(cnt:Int))=true:=qfX (by omega)
        rw[if_pos hc3]at Hsi
        have Hres:=YJ (Hsi.out.trans (Hend.out rfl))
        go_wp2
        refine wqf fun u=> ?_
        have hbu:=u.below
        have HOu:=YJ (au HO.out hbu)
        have HGu:=YJ ((hbu.block _ (ah HG.out)).trans HG.out)
        have hbwu:=fB hbw hbu
        clear HO HG hbw hbu c0 c1 c2 c3 cz
        have HO:=HOu
        have HG:=HGu
        have hbw:=hbwu
        clear HOu HGu hbwu
        generalize u.val=wr at*
        clear u
        obtain⟨c0,c1,c2,c3,_,cz⟩:=am HG.out
        go_wp2
        apply bW [1,2,3,8,9,10] [0,1,2,3,4,5,6,8,9,10] 7 [] 11 [12] [⟨je wr.heap.size,by first|exact gO _|exact gP _|exact fJ _ _ _⟩,sv _,sv _,sv _,⟨IsO wr.heap.size 0 [],by first|exact gO _|exact gP _|exact fJ _ _ _⟩,sv _,⟨qdO (p0,p1,p2,p3),by first|exact gO _|exact gP _|exact fJ _ _ _⟩,sv undef,sv _,sv _,sv _] (fun _=>True) (by kernel_rfl) (by kernel_rfl) (by kernel_rfl) (fun _=>trivial)
        ·(try go_frame)
         iterate 6 ((try go_frame);refine zsQ ?_ (h1:=fun w9 h9=>by(skip;go_simp;first|rfl|(simp only[h9];rfl))))
         exact gR
        try go_frame
        refine wkU (fun u hR K hK=> ?_) (fun o0=> ?_)
        ·clear hR
         have zz:=u.below.size
         go_simp
         exact hK _ _ bel ⟨_,rfl,zz,ai rfl⟩
        iterate 3 ((try go_frame);refine wkQ ?_)
        try go_frame
        refine wkU (fun u hR K hK=> ?_) (fun o4=> ?_)
        ·have h0:je wr.heap.size o0 u.val:=hr hR 0
         clear hR
         obtain⟨gm,rfl,hgm,hgl⟩:=h0
         exact cZ _ _ 162 rfl (append_nil 162 _ 190 i0 TA Hi0.out.1 ⟨gm,0,none⟩ _ _) (hK _ _ (brf) ⟨rfl, .inr ⟨gm,0,#[],rfl,hgm,hgl,qaA _,by unfold maxLen;omega,rfl,rfl⟩⟩)
        try go_frame
        refine wkV ?_
        apply ex3
        ·intro u K hK
         have q0:=ab u.below c0
         have q1:=ab u.below c1
         have q2:=ab u.below c2
         have q3:=ab u.below c3
         have qz:=qaG cz u.below.size
         go_simp
         exact hK _ brf
        rfl
        try go_frame
        refine wkU (fun u hR K hK=> ?_) (fun o6=> ?_)
        ·clear hR
         go_simp
         exact hK _ _ bel ⟨_,rfl,ai rfl⟩
        iterate 3 ((try go_frame);refine wkQ ?_)
        try go_frame
        refine aI (fun u hR=> ?_)
        have ho4:u.val.ownsRow wr.heap.size 190 4 o4 0 ((([]:List Q4)).flatMap aH):=hR 4 (by simp)
        obtain⟨gp,rfl,hgp⟩:qdO (p0,p1,p2,p3) o6 u.val:=hR 6 (by simp)
        have hb':=u.below
        clear hR
        generalize u.val=w' at*
        clear u
        simp only[oas]
        refine jf ho4 hb' hb'.size rfl (gQ hgp) _ _ rfl rfl rfl rfl (by first|omega|(simp;done)|(simp;omega)) fun v5 w5 hown5 hb5=> ?_
        refine⟨trivial, ?_⟩
        simp only[oas]
        clear ho4 hgp hb'
        go_frame
        refine wpList_append_own_none rfl _ _ 162 rfl wr.heap.size 190 i0 4 TA Hi0.out.1 _ _ _ rfl hown5 rfl ?_
        go_frame
        iterate 1 (refine wpList_step (fun K hK=> ?_);go_simp;refine hK _ _ ?_;clear hK K)
        refine NoPanic.normal ?_
        go_wp2
        go_roundw
        case rel=>exact⟨i+1,by omega,by go_num,fB hbw hb5,YJ (by rw[Hres.out];exact AY (by simpa using hown5) hbw.size)⟩
        simp[intOf];try omega
       ·have hd3:decide ((3:Int)≤(cnt:Int))=false:=qfZ (by omega)
        rw[if_neg hc3]at Hsi
        go_wp2
        refine wqf fun u=> ?_
        have hbu:=u.below
        have HOu:=YJ (au HO.out hbu)
        have HGu:=YJ ((hbu.block _ (ah HG.out)).trans HG.out)
        have hbwu:=fB hbw hbu
        clear HO HG hbw hbu c0 c1 c2 c3 cz
        have HO:=HOu
        have HG:=HGu
        have hbw:=hbwu
        clear HOu HGu hbwu
        generalize u.val=wr at*
        clear u
        obtain⟨c0,c1,c2,c3,_,cz⟩:=am HG.out
        go_wp2
        go_roundw
        case rel=>exact⟨i+1,by omega,by go_num,hbw,YJ (by rw[Hsi.out];exact HO.out)⟩
        simp[intOf];try omega
     ·subst e
      have HQk:=YJ (tG HOk.out)
      go_wp2
      go_loopw [9] (fun x wr=>∃j:Nat,j≤T∧x= .int .i64 j∧Below wk.heap.size wk wr) (fun x _=>T-(intOf x).toNat)
      case atStart=>exact⟨0,by omega,rfl,brf⟩
      case round=>
       obtain⟨j,hj,rfl,hbr⟩:=hrel
       have HG:=YJ ((hbr.block _ (ah HGk.out)).trans HGk.out)
       have hbw:=fB hbwk hbr
       have HO:=YJ (au HOk.out hbr)
       have HQ:=YJ (HQk.out.below hbr)
       clear HOk HGk HQk
       obtain⟨c0,c1,c2,c3,_,cz⟩:=am HG.out
       by_cases hjT:j<T
       ·have hjl:j<A.length:=by omega
        obtain⟨a0,a1,a2,a3⟩:=HQ.out j hjl
        have za:=qaC wr _ a0
        simp only[qfW]at a0 a1 a2 a3 za
        have HL1:∀W',Hid (Calls Tryz.prog 190 #[v4 A[j],v4 (p0,p1,p2,p3)] W' (Ret W' (.bool true))):=fun W'=>YJ (by have:=(Hless A[j] W').out;rwa [qfX (Hin.out j hjl hjT)]at this)
        have g3:(j:Int)<(A.length:Int):=by omega
        have g4:(0:Int)≤(j:Int):=by omega
        clear Hin Hout Hend Hmid Hskip Hless HQ
        generalize A[j]=q at*
        obtain⟨q0,q1,q2,q3⟩:=q
        simp only at a0 a1 a2 a3
        go_wp2
        refine wqb ?_
        repeat(first|go_big_quiet_step ((go_at_call 190;exact aE ((HL1 _).out)))|quiet_step ((go_at_call 190;exact aE ((HL1 _).out))))
        refine wqn fun u=> ?_
        go_wp2
        go_roundw
        case rel=>exact⟨j+1,by omega,by go_num,fB hbr u.below⟩
        simp[intOf];try omega
       ·obtain rfl:j=T:=by omega
        clear hbr hjT
        obtain⟨T,rfl⟩:∃T,T=j:=⟨_,rfl⟩
        have g4:(0:Int)≤(T:Int):=by omega
        by_cases hTA:T<A.length
        ·have Hq:=YJ (Hout.out hTA)
         obtain⟨a0,a1,a2,a3⟩:=HQ.out T hTA
         have za:=qaC wr _ a0
         simp only[qfW]at a0 a1 a2 a3 za
         have HL0:∀W',Hid (Calls Tryz.prog 190 #[v4 A[T],v4 (p0,p1,p2,p3)] W' (Ret W' (.bool false))):=fun W'=>YJ (by have:=(Hless A[T] W').out;rwa [qfZ (by have:=Hq.out;omega)]at this)
         have g3:(T:Int)<(A.length:Int):=by omega
         have e58:((T:Int)==(A.length:Int))=false:=by simp;omega
         have Heq:=YJ (fun W'=>nh A[T] (p0,p1,p2,p3) W')
         have Hm2:=YJ (fun h=>Hmid.out hTA h)
         have Hs2:=YJ (fun h=>Hskip.out hTA h)
         clear Hin Hout Hend Hmid Hskip Hless Hq
         generalize A[T]=q at*
         obtain⟨q0,q1,q2,q3⟩:=q
         simp only at a0 a1 a2 a3
         go_wp2
         refine wqb ?_
         repeat(first|go_big_quiet_step ((go_at_call 190;exact aE ((HL0 _).out)))|quiet_step ((go_at_call 190;exact aE ((HL0 _).out))))
         refine wqn fun u=> ?_
         have a0:=ab u.below a0
         have a1:=ab u.below a1
         have a2:=ab u.below a2
         have a3:=ab u.below a3
         have za:=qaG za u.below.size
         have HQu:=YJ (HQ.out.below u.below)
         clear HQ
         have HQ:=HQu
         clear HQu
         have hbu:=u.below
         have HOu:=YJ (au HO.out hbu)
         have HGu:=YJ ((hbu.block _ (ah HG.out)).trans HG.out)
         have hbwu:=fB hbw hbu
         clear HO HG hbw hbu c0 c1 c2 c3 cz
         have HO:=HOu
         have HG:=HGu
         have hbw:=hbwu
         clear HOu HGu hbwu
         generalize u.val=wr at*
         clear u
         obtain⟨c0,c1,c2,c3,_,cz⟩:=am HG.out
         clear HL0
         by_cases hc3:3≤cnt
         ·have hd3:decide ((3:Int)≤(cnt:Int))=true:=qfX (by omega)
          rw[if_pos hc3]at Hsi
          by_cases hE:((q0,q1,q2,q3):Q4)=(p0,p1,p2,p3)
          ·have Hres:=YJ (Hsi.out.trans (Hs2.out hE))
           have he:=Heq.out
           have hd:=qfX hE
           simp only[hd]at he
           clear hE hd
           go_wp2
           refine wqf fun u=> ?_
           have hbu:=u.below
           have HOu:=YJ (au HO.out hbu)
           have HGu:=YJ ((hbu.block _ (ah HG.out)).trans HG.out)
           have hbwu:=fB hbw hbu
           clear HO HG hbw hbu c0 c1 c2 c3 cz
           have HO:=HOu
           have HG:=HGu
           have hbw:=hbwu
           clear HOu HGu hbwu
           generalize u.val=wr at*
           clear u
           obtain⟨c0,c1,c2,c3,_,cz⟩:=am HG.out
           clear Hsi
           have Hsi:=Hres
           go_wp2
           go_roundw
           case rel=>exact⟨i+1,by omega,by go_num,hbw,YJ (by rw[Hsi.out];exact HO.out)⟩
           simp[intOf];try omega
          ·have Hres:=YJ (Hsi.out.trans (Hm2.out hE))
           have he:=Heq.out
           have hd:=qfZ hE
           simp only[hd]at he
           clear hE hd
           go_wp2
           refine wqf fun u=> ?_
           have HQu:=YJ (HQ.out.below u.below)
           clear HQ
           have HQ:=HQu
           clear HQu
           have hbu:=u.below
           have HOu:=YJ (au HO.out hbu)
           have HGu:=YJ ((hbu.block _ (ah HG.out)).trans HG.out)
           have hbwu:=fB hbw hbu
           clear HO HG hbw hbu c0 c1 c2 c3 cz
           have HO:=HOu
           have HG:=HGu
           have hbw:=hbwu
           clear HOu HGu hbwu
           generalize u.val=wr at*
           clear u
           obtain⟨c0,c1,c2,c3,_,cz⟩:=am HG.out
           clear he Heq Hm2 Hs2 e58 a0 a1 a2 a3 za
           have g5:(T:Int)≤(cap:Int):=by omega
           have e6:¬cap=T:=by omega
           have e7:¬cap=0:=by omega
           go_wp2
           by_cases hT0:T=0
           ·subst hT0
            have z0:((0:Nat):Int)=0:=rfl
            simp only[z0]
            apply bW [1,2,3,8,9,10] [0,1,2,3,4,5,6,8,9,10] 7 [] 11 [12] [⟨je wr.heap.size,by first|exact gO _|exact gP _|exact fJ _ _ _⟩,sv _,sv _,sv _,⟨IsO wr.heap.size 0 ([]:List Q4),by first|exact gO _|exact gP _|exact fJ _ _ _⟩,sv _,⟨qdO (p0,p1,p2,p3),by first|exact gO _|exact gP _|exact fJ _ _ _⟩,sv undef,sv _,sv _,sv _] (fun _=>True) (by kernel_rfl) (by kernel_rfl) (by kernel_rfl) (fun _=>trivial)
            ·(try go_frame)
             iterate 6 ((try go_frame);refine zsQ ?_ (h1:=fun w9 h9=>by(skip;go_simp;first|rfl|(simp only[h9];rfl))))
             exact gR
            try go_frame
            refine wkU (fun u hR K hK=> ?_) (fun o0=> ?_)
            ·clear hR
             have zz:=u.below.size
             go_simp
             exact hK _ _ bel ⟨_,rfl,zz,ai rfl⟩
            iterate 3 ((try go_frame);refine wkQ ?_)
            try go_frame
            refine wkU (fun u hR K hK=> ?_) (fun o4=> ?_)
            ·have h0:je wr.heap.size o0 u.val:=hr hR 0
             clear hR
             obtain⟨gm,rfl,hgm,hgl⟩:=h0
             exact cZ _ _ 162 rfl (append_nil 162 _ 190 i0 TA Hi0.out.1 ⟨gm,0,none⟩ _ _) (hK _ _ (brf) ⟨rfl, .inr ⟨gm,0,#[],rfl,hgm,hgl,qaA _,by unfold maxLen;omega,rfl,rfl⟩⟩)
            try go_frame
            refine wkV ?_
            apply ex3
            ·intro u K hK
             have q0:=ab u.below c0
             have q1:=ab u.below c1
             have q2:=ab u.below c2
             have q3:=ab u.below c3
             have qz:=qaG cz u.below.size
             go_simp
             exact hK _ brf
            rfl
            try go_frame
            refine wkU (fun u hR K hK=> ?_) (fun o6=> ?_)
            ·clear hR
             go_simp
             exact hK _ _ bel ⟨_,rfl,ai rfl⟩
            iterate 3 ((try go_frame);refine wkQ ?_)
            try go_frame
            refine aI (fun u hR=> ?_)
            have ho4:u.val.ownsRow wr.heap.size 190 4 o4 0 ((([]:List Q4)).flatMap aH):=hR 4 (by simp)
            obtain⟨gp,rfl,hgp⟩:qdO (p0,p1,p2,p3) o6 u.val:=hR 6 (by simp)
            have hb':=u.below
            clear hR
            generalize u.val=w' at*
            clear u
            simp only[oas]
            refine jf ho4 hb' hb'.size rfl (gQ hgp) _ _ rfl rfl rfl rfl (by first|omega|(simp;done)|(simp;omega)) fun v5 w5 hown5 hb5=> ?_
            refine⟨trivial, ?_⟩
            simp only[oas]
            clear ho4 hgp hb'
            go_frame
            refine jf (ds:=A.drop 0) hown5 hb5 hb5.size (by rw[List.length_drop];try omega) (gD (HQ.out.below hb5) 0) _ _ rfl rfl rfl rfl (by first|omega|(simp;done)|(simp;omega)) fun v6 w6 hown6 hb6=> ?_
            go_frame
            iterate 1 (refine wpList_step (fun K hK=> ?_);go_simp;refine hK _ _ ?_;clear hK K)
            refine NoPanic.normal ?_
            go_wp2
            go_roundw
            case rel=>exact⟨i+1,by omega,by go_num,fB hbw hb6,YJ (by rw[Hres.out];exact AY (by simpa using hown6) hbw.size)⟩
            simp[intOf];try omega
           ·have hT1:0<T:=by omega
            apply bW [1,2,3,8,9,10] [0,1,2,3,4,5,6,8,9,10] 7 [] 11 [12] [⟨je wr.heap.size,by first|exact gO _|exact gP _|exact fJ _ _ _⟩,sv _,sv _,sv _,⟨IsO wr.heap.size T (A.take T),by first|exact gO _|exact gP _|exact fJ _ _ _⟩,sv _,⟨qdO (p0,p1,p2,p3),by first|exact gO _|exact gP _|exact fJ _ _ _⟩,sv undef,sv _,sv _,sv _] (fun _=>True) (by kernel_rfl) (by kernel_rfl) (by kernel_rfl) (fun _=>trivial)
            ·(try go_frame)
             iterate 6 ((try go_frame);refine zsQ ?_ (h1:=fun w9 h9=>by(skip;go_simp;first|rfl|(simp only[h9];rfl))))
             exact gR
            try go_frame
            refine wkU (fun u hR K hK=> ?_) (fun o0=> ?_)
            ·clear hR
             have zz:=u.below.size
             go_simp
             exact hK _ _ bel ⟨_,rfl,zz,ai rfl⟩
            iterate 3 ((try go_frame);refine wkQ ?_)
            try go_frame
            refine wkU (fun u hR K hK=> ?_) (fun o4=> ?_)
            ·have h0:je wr.heap.size o0 u.val:=hr hR 0
             clear hR
             obtain⟨gm,rfl,hgm,hgl⟩:=h0
             obtain⟨v9,w9,hrun,hown9,hb9⟩:=dM (P:=Tryz.prog) (w:=u.val) 162 162 190 i0 (v4 (0,0,0,0)) 4 32 TA Hi0.out.1 Hi0.out.2.1 Hi0.out.2.2.1 Hi0.out.2.2.2 rfl (by decide) ⟨gm,0,none⟩ 0 0 [] rfl (fun _ _ h=>by simp at h) ⟨g,0,none⟩ T cap ((A.take T).flatMap aH) (by rw[bh,qge];omega) (mB (HQ.out.below u.below) T) (by omega) (by unfold maxLen;omega) (by omega)
             exact cZ _ _ 162 rfl hrun (hK _ _ hb9 (by have h9:=AY hown9 u.below.size;simp only[qfW,List.nil_append]at h9;exact h9))
            try go_frame
            refine wkV ?_
            apply ex3
            ·intro u K hK
             have q0:=ab u.below c0
             have q1:=ab u.below c1
             have q2:=ab u.below c2
             have q3:=ab u.below c3
             have qz:=qaG cz u.below.size
             go_simp
             exact hK _ brf
            rfl
            try go_frame
            refine wkU (fun u hR K hK=> ?_) (fun o6=> ?_)
            ·clear hR
             go_simp
             exact hK _ _ bel ⟨_,rfl,ai rfl⟩
            iterate 3 ((try go_frame);refine wkQ ?_)
            try go_frame
            refine aI (fun u hR=> ?_)
            have ho4:u.val.ownsRow wr.heap.size 190 4 o4 T (((A.take T)).flatMap aH):=hR 4 (by simp)
            obtain⟨gp,rfl,hgp⟩:qdO (p0,p1,p2,p3) o6 u.val:=hR 6 (by simp)
            have hb':=u.below
            clear hR
            generalize u.val=w' at*
            clear u
            simp only[oas]
            refine jf ho4 hb' hb'.size rfl (gQ hgp) _ _ rfl rfl rfl rfl (by first|omega|(simp;done)|(simp;omega)) fun v5 w5 hown5 hb5=> ?_
            refine⟨trivial, ?_⟩
            simp only[oas]
            clear ho4 hgp hb'
            go_frame
            refine jf (ds:=A.drop T) hown5 hb5 hb5.size (by rw[List.length_drop];try omega) (gD (HQ.out.below hb5) T) _ _ rfl rfl rfl rfl (by first|omega|(simp;done)|(simp;omega)) fun v6 w6 hown6 hb6=> ?_
            go_frame
            iterate 1 (refine wpList_step (fun K hK=> ?_);go_simp;refine hK _ _ ?_;clear hK K)
            refine NoPanic.normal ?_
            go_wp2
            go_roundw
            case rel=>exact⟨i+1,by omega,by go_num,fB hbw hb6,YJ (by rw[Hres.out];exact AY (by simpa using hown6) hbw.size)⟩
            simp[intOf];try omega
         ·have hd3:decide ((3:Int)≤(cnt:Int))=false:=qfZ (by omega)
          rw[if_neg hc3]at Hsi
          go_wp2
          refine wqf fun u=> ?_
          have hbu:=u.below
          have HOu:=YJ (au HO.out hbu)
          have HGu:=YJ ((hbu.block _ (ah HG.out)).trans HG.out)
          have hbwu:=fB hbw hbu
          clear HO HG hbw hbu c0 c1 c2 c3 cz
          have HO:=HOu
          have HG:=HGu
          have hbw:=hbwu
          clear HOu HGu hbwu
          generalize u.val=wr at*
          clear u
          obtain⟨c0,c1,c2,c3,_,cz⟩:=am HG.out
          go_wp2
          go_roundw
          case rel=>exact⟨i+1,by omega,by go_num,hbw,YJ (by rw[Hsi.out];exact HO.out)⟩
          simp[intOf];try omega
        ·have hT2:A.length≤T:=by omega
         clear hTA
         have g3:¬(T:Int)<(A.length:Int):=by omega
         have g3':(T:Int)≤(A.length:Int):=by omega
         have d3:decide (T<A.length)=false:=qfZ (by omega)
         have e58:((T:Int)==(A.length:Int))=true:=by simp;omega
         clear Hin Hout Hmid Hskip Hless
         go_wp2
         refine wqf fun u=> ?_
         have HQu:=YJ (HQ.out.below u.below)
         clear HQ
         have HQ:=HQu
         clear HQu
         have hbu:=u.below
         have HOu:=YJ (au HO.out hbu)
         have HGu:=YJ ((hbu.block _ (ah HG.out)).trans HG.out)
         have hbwu:=fB hbw hbu
         clear HO HG hbw hbu c0 c1 c2 c3 cz
         have HO:=HOu
         have HG:=HGu
         have hbw:=hbwu
         clear HOu HGu hbwu
         generalize u.val=wr at*
         clear u
         obtain⟨c0,c1,c2,c3,_,cz⟩:=am HG.out
         by_cases hc3:3≤cnt
         ·have hd3:decide ((3:Int)≤(cnt:Int))=true:=qfX (by omega)
          rw[if_pos hc3]at Hsi
          have Hres:=YJ (Hsi.out.trans (Hend.out (by omega)))
          go_wp2
          refine wqf fun u=> ?_
          have HQu:=YJ (HQ.out.below u.below)
          clear HQ
          have HQ:=HQu
          clear HQu
          have hbu:=u.below
          have HOu:=YJ (au HO.out hbu)
          have HGu:=YJ ((hbu.block _ (ah HG.out)).trans HG.out)
          have hbwu:=fB hbw hbu
          clear HO HG hbw hbu c0 c1 c2 c3 cz
          have HO:=HOu
          have HG:=HGu
          have hbw:=hbwu
          clear HOu HGu hbwu
          generalize u.val=wr at*
          clear u
          obtain⟨c0,c1,c2,c3,_,cz⟩:=am HG.out
          clear e58 g3
          have g5:(T:Int)≤(cap:Int):=by omega
          go_wp2
          by_cases hT0:T=0
          ·subst hT0
           have z0:((0:Nat):Int)=0:=rfl
           simp only[z0]
           have hA0:A.length=0:=by omega
           rw[hA0]
           by_cases e7:cap=0
           ·subst e7
            apply bW [1,2,3,8,9,10] [0,1,2,3,4,5,6,8,9,10] 7 [] 11 [12] [⟨je wr.heap.size,by first|exact gO _|exact gP _|exact fJ _ _ _⟩,sv _,sv _,sv _,⟨IsO wr.heap.size 0 ([]:List Q4),by first|exact gO _|exact gP _|exact fJ _ _ _⟩,sv _,⟨qdO (p0,p1,p2,p3),by first|exact gO _|exact gP _|exact fJ _ _ _⟩,sv undef,sv _,sv _,sv _] (fun _=>True) (by kernel_rfl) (by kernel_rfl) (by kernel_rfl) (fun _=>trivial)
            ·(try go_frame)
             iterate 6 ((try go_frame);refine zsQ ?_ (h1:=fun w9 h9=>by(skip;go_simp;first|rfl|(simp only[h9];rfl))))
             exact gR
            try go_frame
            refine wkU (fun u hR K hK=> ?_) (fun o0=> ?_)
            ·clear hR
             have zz:=u.below.size
             go_simp
             exact hK _ _ bel ⟨_,rfl,zz,ai rfl⟩
            iterate 3 ((try go_frame);refine wkQ ?_)
            try go_frame
            refine wkU (fun u hR K hK=> ?_) (fun o4=> ?_)
            ·have h0:je wr.heap.size o0 u.val:=hr hR 0
             clear hR
             obtain⟨gm,rfl,hgm,hgl⟩:=h0
             exact cZ _ _ 162 rfl (append_nil 162 _ 190 i0 TA Hi0.out.1 ⟨gm,0,none⟩ _ _) (hK _ _ (brf) ⟨rfl, .inr ⟨gm,0,#[],rfl,hgm,hgl,qaA _,by unfold maxLen;omega,rfl,rfl⟩⟩)
            try go_frame
            refine wkV ?_
            apply ex3
            ·intro u K hK
             have q0:=ab u.below c0
             have q1:=ab u.below c1
             have q2:=ab u.below c2
             have q3:=ab u.below c3
             have qz:=qaG cz u.below.size
             go_simp
             exact hK _ brf
            rfl
            try go_frame
            refine wkU (fun u hR K hK=> ?_) (fun o6=> ?_)
            ·clear hR
             go_simp
             exact hK _ _ bel ⟨_,rfl,ai rfl⟩
            iterate 3 ((try go_frame);refine wkQ ?_)
            try go_frame
            refine aI (fun u hR=> ?_)
            have ho4:u.val.ownsRow wr.heap.size 190 4 o4 0 ((([]:List Q4)).flatMap aH):=hR 4 (by simp)
            obtain⟨gp,rfl,hgp⟩:qdO (p0,p1,p2,p3) o6 u.val:=hR 6 (by simp)
            have hb':=u.below
            clear hR
            generalize u.val=w' at*
            clear u
            simp only[oas]
            refine jf ho4 hb' hb'.size rfl (gQ hgp) _ _ rfl rfl rfl rfl (by first|omega|(simp;done)|(simp;omega)) fun v5 w5 hown5 hb5=> ?_
            refine⟨trivial, ?_⟩
            simp only[oas]
            clear ho4 hgp hb'
            go_frame
            refine jf (ds:=A.drop 0) hown5 hb5 hb5.size (by rw[List.length_drop];try omega) (gD (HQ.out.below hb5) 0) _ _ rfl rfl rfl rfl (by first|omega|(simp;done)|(simp;omega)) fun v6 w6 hown6 hb6=> ?_
            go_frame
            iterate 1 (refine wpList_step (fun K hK=> ?_);go_simp;refine hK _ _ ?_;clear hK K)
            refine NoPanic.normal ?_
            go_wp2
            go_roundw
            case rel=>exact⟨i+1,by omega,by go_num,fB hbw hb6,YJ (by rw[Hres.out];exact AY (by simpa using hown6) hbw.size)⟩
            simp[intOf];try omega
           ·skip
            apply bW [1,2,3,8,9,10] [0,1,2,3,4,5,6,8,9,10] 7 [] 11 [12] [⟨je wr.heap.size,by first|exact gO _|exact gP _|exact fJ _ _ _⟩,sv _,sv _,sv _,⟨IsO wr.heap.size 0 ([]:List Q4),by first|exact gO _|exact gP _|exact fJ _ _ _⟩,sv _,⟨qdO (p0,p1,p2,p3),by first|exact gO _|exact gP _|exact fJ _ _ _⟩,sv undef,sv _,sv _,sv _] (fun _=>True) (by kernel_rfl) (by kernel_rfl) (by kernel_rfl) (fun _=>trivial)
            ·(try go_frame)
             iterate 6 ((try go_frame);refine zsQ ?_ (h1:=fun w9 h9=>by(skip;go_simp;first|rfl|(simp only[h9];rfl))))
             exact gR
            try go_frame
            refine wkU (fun u hR K hK=> ?_) (fun o0=> ?_)
            ·clear hR
             have zz:=u.below.size
             go_simp
             exact hK _ _ bel ⟨_,rfl,zz,ai rfl⟩
            iterate 3 ((try go_frame);refine wkQ ?_)
            try go_frame
            refine wkU (fun u hR K hK=> ?_) (fun o4=> ?_)
            ·have h0:je wr.heap.size o0 u.val:=hr hR 0
             clear hR
             obtain⟨gm,rfl,hgm,hgl⟩:=h0
             exact cZ _ _ 162 rfl (append_nil 162 _ 190 i0 TA Hi0.out.1 ⟨gm,0,none⟩ _ _) (hK _ _ (brf) ⟨rfl, .inr ⟨gm,0,#[],rfl,hgm,hgl,qaA _,by unfold maxLen;omega,rfl,rfl⟩⟩)
            try go_frame
            refine wkV ?_
            apply ex3
            ·intro u K hK
             have q0:=ab u.below c0
             have q1:=ab u.below c1
             have q2:=ab u.below c2
             have q3:=ab u.below c3
             have qz:=qaG cz u.below.size
             go_simp
             exact hK _ brf
            rfl
            try go_frame
            refine wkU (fun u hR K hK=> ?_) (fun o6=> ?_)
            ·clear hR
             go_simp
             exact hK _ _ bel ⟨_,rfl,ai rfl⟩
            iterate 3 ((try go_frame);refine wkQ ?_)
            try go_frame
            refine aI (fun u hR=> ?_)
            have ho4:u.val.ownsRow wr.heap.size 190 4 o4 0 ((([]:List Q4)).flatMap aH):=hR 4 (by simp)
            obtain⟨gp,rfl,hgp⟩:qdO (p0,p1,p2,p3) o6 u.val:=hR 6 (by simp)
            have hb':=u.below
            clear hR
            generalize u.val=w' at*
            clear u
            simp only[oas]
            refine jf ho4 hb' hb'.size rfl (gQ hgp) _ _ rfl rfl rfl rfl (by first|omega|(simp;done)|(simp;omega)) fun v5 w5 hown5 hb5=> ?_
            refine⟨trivial, ?_⟩
            simp only[oas]
            clear ho4 hgp hb'
            go_frame
            refine jf (ds:=A.drop 0) hown5 hb5 hb5.size (by rw[List.length_drop];try omega) (gD (HQ.out.below hb5) 0) _ _ rfl rfl rfl rfl (by first|omega|(simp;done)|(simp;omega)) fun v6 w6 hown6 hb6=> ?_
            go_frame
            iterate 1 (refine wpList_step (fun K hK=> ?_);go_simp;refine hK _ _ ?_;clear hK K)
            refine NoPanic.normal ?_
            go_wp2
            go_roundw
            case rel=>exact⟨i+1,by omega,by go_num,fB hbw hb6,YJ (by rw[Hres.out];exact AY (by simpa using hown6) hbw.size)⟩
            simp[intOf];try omega
          ·have hT1:0<T:=by omega
           have e7:¬cap=0:=by omega
           by_cases e6:cap=T
           ·subst e6
            obtain⟨T,rfl⟩:∃T,T=cap:=⟨_,rfl⟩
            apply bW [1,2,3,8,9,10] [0,1,2,3,4,5,6,8,9,10] 7 [] 11 [12] [⟨je wr.heap.size,by first|exact gO _|exact gP _|exact fJ _ _ _⟩,sv _,sv _,sv _,⟨IsO wr.heap.size T (A.take T),by first|exact gO _|exact gP _|exact fJ _ _ _⟩,sv _,⟨qdO (p0,p1,p2,p3),by first|exact gO _|exact gP _|exact fJ _ _ _⟩,sv undef,sv _,sv _,sv _] (fun _=>True) (by kernel_rfl) (by kernel_rfl) (by kernel_rfl) (fun _=>trivial)
            ·(try go_frame)
             iterate 6 ((try go_frame);refine zsQ ?_ (h1:=fun w9 h9=>by(skip;go_simp;first|rfl|(simp only[h9];rfl))))
             exact gR
            try go_frame
            refine wkU (fun u hR K hK=> ?_) (fun o0=> ?_)
            ·clear hR
             have zz:=u.below.size
             go_simp
             exact hK _ _ bel ⟨_,rfl,zz,ai rfl⟩
            iterate 3 ((try go_frame);refine wkQ ?_)
            try go_frame
            refine wkU (fun u hR K hK=> ?_) (fun o4=> ?_)
            ·have h0:je wr.heap.size o0 u.val:=hr hR 0
             clear hR
             obtain⟨gm,rfl,hgm,hgl⟩:=h0
             obtain⟨v9,w9,hrun,hown9,hb9⟩:=dM (P:=Tryz.prog) (w:=u.val) 162 162 190 i0 (v4 (0,0,0,0)) 4 32 TA Hi0.out.1 Hi0.out.2.1 Hi0.out.2.2.1 Hi0.out.2.2.2 rfl (by decide) ⟨gm,0,none⟩ 0 0 [] rfl (fun _ _ h=>by simp at h) ⟨g,0,none⟩ T T ((A.take T).flatMap aH) (by rw[bh,qge];omega) (mB (HQ.out.below u.below) T) (by omega) (by unfold maxLen;omega) (by omega)
             exact cZ _ _ 162 rfl hrun (hK _ _ hb9 (by have h9:=AY hown9 u.below.size;simp only[qfW,List.nil_append]at h9;exact h9))
            try go_frame
            refine wkV ?_
            apply ex3
            ·intro u K hK
             have q0:=ab u.below c0
             have q1:=ab u.below c1
             have q2:=ab u.below c2
             have q3:=ab u.below c3
             have qz:=qaG cz u.below.size
             go_simp
             exact hK _ brf
            rfl
            try go_frame
            refine wkU (fun u hR K hK=> ?_) (fun o6=> ?_)
            ·clear hR
             go_simp
             exact hK _ _ bel ⟨_,rfl,ai rfl⟩
            iterate 3 ((try go_frame);refine wkQ ?_)
            try go_frame
            refine aI (fun u hR=> ?_)
            have ho4:u.val.ownsRow wr.heap.size 190 4 o4 T (((A.take T)).flatMap aH):=hR 4 (by simp)
            obtain⟨gp,rfl,hgp⟩:qdO (p0,p1,p2,p3) o6 u.val:=hR 6 (by simp)
            have hb':=u.below
            clear hR
            generalize u.val=w' at*
            clear u
            simp only[oas]
            refine jf ho4 hb' hb'.size rfl (gQ hgp) _ _ rfl rfl rfl rfl (by first|omega|(simp;done)|(simp;omega)) fun v5 w5 hown5 hb5=> ?_
            refine⟨trivial, ?_⟩
            simp only[oas]
            clear ho4 hgp hb'
            go_frame
            refine jf (ds:=A.drop T) hown5 hb5 hb5.size (by rw[List.length_drop];try omega) (fun j u hu=>by rw[List.drop_eq_nil_of_le (by omega)]at hu;simp at hu) _ _ rfl rfl rfl rfl (by first|omega|(simp;done)|(simp;omega)) fun v6 w6 hown6 hb6=> ?_
            go_frame
            iterate 1 (refine wpList_step (fun K hK=> ?_);go_simp;refine hK _ _ ?_;clear hK K)
            refine NoPanic.normal ?_
            go_wp2
            go_roundw
            case rel=>exact⟨i+1,by omega,by go_num,fB hbw hb6,YJ (by rw[Hres.out];exact AY (by simpa using hown6) hbw.size)⟩
            simp[intOf];try omega
           ·skip
            apply bW [1,2,3,8,9,10] [0,1,2,3,4,5,6,8,9,10] 7 [] 11 [12] [⟨je wr.heap.size,by first|exact gO _|exact gP _|exact fJ _ _ _⟩,sv _,sv _,sv _,⟨IsO wr.heap.size T (A.take T),by first|exact gO _|exact gP _|exact fJ _ _ _⟩,sv _,⟨qdO (p0,p1,p2,p3),by first|exact gO _|exact gP _|exact fJ _ _ _⟩,sv undef,sv _,sv _,sv _] (fun _=>True) (by kernel_rfl) (by kernel_rfl) (by kernel_rfl) (fun _=>trivial)
            ·(try go_frame)
             iterate 6 ((try go_frame);refine zsQ ?_ (h1:=fun w9 h9=>by(skip;go_simp;first|rfl|(simp only[h9];rfl))))
             exact gR
            try go_frame
            refine wkU (fun u hR K hK=> ?_) (fun o0=> ?_)
            ·clear hR
             have zz:=u.below.size
             go_simp
             exact hK _ _ bel ⟨_,rfl,zz,ai rfl⟩
            iterate 3 ((try go_frame);refine wkQ ?_)
            try go_frame
            refine wkU (fun u hR K hK=> ?_) (fun o4=> ?_)
            ·have h0:je wr.heap.size o0 u.val:=hr hR 0
             clear hR
             obtain⟨gm,rfl,hgm,hgl⟩:=h0
             obtain⟨v9,w9,hrun,hown9,hb9⟩:=dM (P:=Tryz.prog) (w:=u.val) 162 162 190 i0 (v4 (0,0,0,0)) 4 32 TA Hi0.out.1 Hi0.out.2.1 Hi0.out.2.2.1 Hi0.out.2.2.2 rfl (by decide) ⟨gm,0,none⟩ 0 0 [] rfl (fun _ _ h=>by simp at h) ⟨g,0,none⟩ T cap ((A.take T).flatMap aH) (by rw[bh,qge];omega) (mB (HQ.out.below u.below) T) (by omega) (by unfold maxLen;omega) (by omega)
             exact cZ _ _ 162 rfl hrun (hK _ _ hb9 (by have h9:=AY hown9 u.below.size;simp only[qfW,List.nil_append]at h9;exact h9))
            try go_frame
            refine wkV ?_
            apply ex3
            ·intro u K hK
             have q0:=ab u.below c0
             have q1:=ab u.below c1
             have q2:=ab u.below c2
             have q3:=ab u.below c3
             have qz:=qaG cz u.below.size
             go_simp
             exact hK _ brf
            rfl
            try go_frame
            refine wkU (fun u hR K hK=> ?_) (fun o6=> ?_)
            ·clear hR
             go_simp
             exact hK _ _ bel ⟨_,rfl,ai rfl⟩
            iterate 3 ((try go_frame);refine wkQ ?_)
            try go_frame
            refine aI (fun u hR=> ?_)
            have ho4:u.val.ownsRow wr.heap.size 190 4 o4 T (((A.take T)).flatMap aH):=hR 4 (by simp)
            obtain⟨gp,rfl,hgp⟩:qdO (p0,p1,p2,p3) o6 u.val:=hR 6 (by simp)
            have hb':=u.below
            clear hR
            generalize u.val=w' at*
            clear u
            simp only[oas]
            refine jf ho4 hb' hb'.size rfl (gQ hgp) _ _ rfl rfl rfl rfl (by first|omega|(simp;done)|(simp;omega)) fun v5 w5 hown5 hb5=> ?_
            refine⟨trivial, ?_⟩
            simp only[oas]
            clear ho4 hgp hb'
            go_frame
            refine jf (ds:=A.drop T) hown5 hb5 hb5.size (by rw[List.length_drop];try omega) (gD (HQ.out.below hb5) T) _ _ rfl rfl rfl rfl (by first|omega|(simp;done)|(simp;omega)) fun v6 w6 hown6 hb6=> ?_
            go_frame
            iterate 1 (refine wpList_step (fun K hK=> ?_);go_simp;refine hK _ _ ?_;clear hK K)
            refine NoPanic.normal ?_
            go_wp2
            go_roundw
            case rel=>exact⟨i+1,by omega,by go_num,fB hbw hb6,YJ (by rw[Hres.out];exact AY (by simpa using hown6) hbw.size)⟩
            simp[intOf];try omega
         ·have hd3:decide ((3:Int)≤(cnt:Int))=false:=qfZ (by omega)
          rw[if_neg hc3]at Hsi
          go_wp2
          refine wqf fun u=> ?_
          have hbu:=u.below
          have HOu:=YJ (au HO.out hbu)
          have HGu:=YJ ((hbu.block _ (ah HG.out)).trans HG.out)
          have hbwu:=fB hbw hbu
          clear HO HG hbw hbu c0 c1 c2 c3 cz
          have HO:=HOu
          have HG:=HGu
          have hbw:=hbwu
          clear HOu HGu hbwu
          generalize u.val=wr at*
          clear u
          obtain⟨c0,c1,c2,c3,_,cz⟩:=am HG.out
          go_wp2
          go_roundw
          case rel=>exact⟨i+1,by omega,by go_num,hbw,YJ (by rw[Hsi.out];exact HO.out)⟩
          simp[intOf];try omega
  ·obtain rfl:i=n:=by omega
   have g1:¬(i:Int)<(i:Int):=by omega
   go_wp2
   go_ret
   exact⟨_,rfl,fB hb1 hb,by have:=AY (base':=W.heap.size) HO.out hb1.size;rw[←Hfin.out];exact this⟩
end
end Go.Proofs.YtffbilcjhlncfaaGreatDoor
