/- texts: AC8 AC9. -/
import Derived.Test.YtnpmkepfpekhfaaGreatDoorGGS37
import Derived.Test.YtnpmkepfpekhfaaGreatDoorGGS38
namespace Go.Proofs.YtnpmkepfpekhfaaGreatDoor
set_option maxHeartbeats 8000000
set_option linter.all false
section
open Go.RowKit Go.Shelf
set_option maxRecDepth 100000
attribute [local go_sem] Ext.cell Ext.frozen
def QE (B:Nat):Value→World→Prop:=fun v w=>∃g,v= .slice (some ⟨g,0,none⟩) 0 0∧B≤g∧w.heap[g]? =some (.cells #[] 196 (0,0))
theorem Ox (B:Nat):dR (QE B):=fun _ _ _ hb ⟨g,h1,h2,h3⟩=>⟨g,h1,h2,(hb.block g (ah h3)).trans h3⟩
def OA (B:Nat) (L:List Q4):Value→World→Prop:=fun v w=>w.ownsRow B 196 4 v L.length (L.flatMap aH)
theorem Pt (B:Nat) (L:List Q4):dR (OA B L):=fun _ _ _ hb h=>au h hb
def QX (B:Nat) (L:List Q4):Value→World→Prop:=fun v w=>∃g x,v= .slice (some ⟨g,0,none⟩) 1 1∧w.heap[g]? =some (.cells #[x] 167 (0,0))∧w.ownsRow B 196 4 x L.length (L.flatMap aH)
def QF (B:Nat) (L:List Q4):Value→World→Prop:=fun v w=>∃x,v= .agg #[x]∧w.ownsRow B 196 4 x L.length (L.flatMap aH)
theorem Oy (B:Nat) (L:List Q4):dR (QF B L):=fun _ _ _ hb ⟨x,h1,h2⟩=>⟨x,h1,au h2 hb⟩
theorem Pu (B:Nat) (L:List Q4):dR (QX B L):=fun _ _ _ hb ⟨g,x,h1,h2,h3⟩=>⟨g,x,h1,(hb.block g (ah h2)).trans h2,au h3 hb⟩
theorem PR {w:World} {base g:Nat} {e T:TypeId} {size n i:Nat} {v u:Value} {xs:List Value} {cs:Array Value} (h:w.ownsRow base e size v n xs) (hg:w.heap[g]? =some (.cells cs T (0,0))) (hT:e≠T):(w.setCell ⟨g,i,none⟩ u).ownsRow base e size v n xs:=
 aF h _ _ (fun k=>aG h hg hT k.symm)
def SolO (B:Nat) (w:World) (v:Value) (css:List (List Q4)):Prop:=∃vs,w.ownsRow B 167 1 v css.length vs∧RowsV w B vs css
theorem SolO.sol {B:Nat} {w:World} {v:Value} {css:List (List Q4)} (h:SolO B w v css):SolV w v css:=by obtain⟨vs,h1,h2⟩:=h;exact qp h1 h2
theorem SolO.below {B:Nat} {w w':World} {v:Value} {css:List (List Q4)} (h:SolO B w v css) (hb:Below w.heap.size w w'):SolO B w' v css:=by obtain⟨vs,h1,h2⟩:=h;exact⟨vs,au h1 hb,h2.below hb⟩
theorem SolO.mono {B B':Nat} {w:World} {v:Value} {css:List (List Q4)} (h:SolO B w v css) (hb:B'≤B):SolO B' w v css:=by obtain⟨vs,h1,h2⟩:=h;exact⟨vs,AY h1 hb,h2.mono hb⟩
def CpP (css:List (List Q4)) (W:World) (e:Ending) (w':World):Prop:=∃v,e= .returned (.agg #[v])∧Below W.heap.size W w'∧SolO W.heap.size w' v css
theorem PA (css:List (List Q4)) (sv:Value) (W:World) (hl:css.length≤1000) (hL:∀c∈css,c.length≤1000) (h:SolV W sv css):
  Calls Tryz.prog 50 #[.agg #[sv]] W (CpP css W):=by
 obtain⟨i0,hi0,hz0,hz1,hz2⟩:=info_parts cY
 have Hi0:=YJ (And.intro hi0 (And.intro hz0 (And.intro hz1 hz2)))
 obtain⟨i1,hj0,hy0,hy1,hy2⟩:=info_parts nt
 have Hi1:=YJ (And.intro hj0 (And.intro hy0 (And.intro hy1 hy2)))
 clear hi0 hz0 hz1 hz2 hj0 hy0 hy1 hy2
 obtain⟨sa,n,sc,rfl,hn, -,hx⟩:=h
 have HX:=YJ hx
 have HN:=YJ hn
 have hn1:n≤1000:=by omega
 have HLn:=fun i (h:i<css.length)=>YJ (hL _ (qaB h))
 have HT:=fun i (h:i<css.length)=>YJ (qaI h)
 have HTl:=fun i (h:i≤css.length)=>YJ (show(css.take i).length=i by rw[List.length_take];omega)
 have HTn:Hid (css.take n=css):=YJ (by rw[←hn];exact List.take_length)
 clear hx hn hl hL
 obtain⟨V,HV⟩:∃V,Hid (((W.alloc (.cells #[.slice sa n sc] 81)).alloc (.cells #[.slice none 0 0] 81)).alloc (.cells #[.slice none 0 0] 81)=V):=⟨_,YJ rfl⟩
 have hV:Below W.heap.size W V:=by rw[←HV.out];exact bel
 have zV:V.heap.size=W.heap.size+3:=by rw[←HV.out];simp
 have BA:Hid (V.heap[W.heap.size]? =some (.cells #[.slice sa n sc] 81 (0,0))):=YJ (by rw[←HV.out];exact(aB (by simp<;>omega)).trans ((aB (by simp)).trans (ai rfl)))
 have BR:Hid (V.heap[W.heap.size+1]? =some (.cells #[.slice none 0 0] 81 (0,0))):=YJ (by rw[←HV.out];exact(aB (by simp)).trans (ai (by simp)))
 have BO:Hid (V.heap[W.heap.size+2]? =some (.cells #[.slice none 0 0] 81 (0,0))):=YJ (by rw[←HV.out];exact ai (by simp))
 go_enter Tryz.func50,Tryz.ntmps50
 go_wp2
 try rw[HV.out]
 go_loopw [4] (fun x wr=>∃k:Nat,k≤n∧x= .int .i64 k∧Below W.heap.size W wr∧W.heap.size+3≤wr.heap.size∧Hid (wr.heap[W.heap.size]? =some (.cells #[.slice sa n sc] 81 (0,0)))∧Hid (wr.heap[W.heap.size+1]? =some (.cells #[.slice none 0 0] 81 (0,0)))∧
   ∃s vs,Hid (wr.heap[W.heap.size+2]? =some (.cells #[s] 81 (0,0)))∧Hid (wr.ownsRow (W.heap.size+3) 167 1 s k vs)∧Hid (RowsV wr (W.heap.size+3) vs (css.take k))) (fun x _=>n-(intOf x).toNat)
 case atStart=>exact⟨0,by omega,rfl,hV,by omega,BA,BR, .slice none 0 0,[],BO,YJ (World.ownsRow_nil _ _ _ _),YJ RowsV.nil⟩
 case round=>
  clear BA BR BO hV zV
  obtain⟨k,hk,rfl,hb,zr,HA,HR,s,vs,HG,HO,HRv⟩:=hrel
  have a0:wr.cell? ⟨W.heap.size,0,none⟩=some (.slice sa n sc):=(ag HA.out 0).trans rfl
  have az:=ah HA.out
  have g0:wr.cell? ⟨W.heap.size+2,0,none⟩=some s:=(ag HG.out 0).trans rfl
  have gz:=ah HG.out
  have gf:=aC HG.out
  by_cases hlt:k<n
  ·have g1:(k:Int)<(n:Int):=by omega
   have g2:(0:Int)≤(k:Int):=by omega
   have hil:k<css.length:=by have:=HN.out;omega
   obtain⟨b,off,rfl,hi4⟩:=HX.out (by omega)
   obtain⟨pv,e0,hs⟩:=hi4 k hil
   have e0:=ab hb e0
   have ze:=qaC wr _ e0
   simp only at ze
   have HQ:=YJ (hs.below hb)
   obtain⟨pa,pn,pc,rfl,hpn, -,hpx⟩:=hs.below hb
   have hpl:pn≤1000:=by have:=(HLn k hil).out;omega
   have HTk:=HT k hil
   have HPn:=YJ hpn
   have HPx:=YJ hpx
   clear hi4 hs HX HLn HT hpn hpx
   generalize css[k]=c at*
   obtain⟨sad,scap,rfl⟩:=aT HO.out
   go_wp2
   apply aj [] [0,1,2,3,4,5,6,7,8,9,10,11] 12 [13,14] [sv _,sv _,⟨QE wr.heap.size,by first|exact Ox _|exact Pt _ _|exact Oy _ _|exact Pu _ _⟩,sv _,sv _,sv _,sv _,sv _,sv _,⟨OA wr.heap.size c,by first|exact Ox _|exact Pt _ _|exact Oy _ _|exact Pu _ _⟩,⟨QF wr.heap.size c,by first|exact Ox _|exact Pt _ _|exact Oy _ _|exact Pu _ _⟩,⟨QX wr.heap.size c,by first|exact Ox _|exact Pt _ _|exact Oy _ _|exact Pu _ _⟩] (by kernel_rfl) (by kernel_rfl)
   iterate 2 ((try go_frame);refine wkQ ?_)
   try go_frame
   refine wkU (fun u hR K hK=> ?_) (fun o2=> ?_)
   ·clear hR
    have zz:=u.below.size
    go_simp
    exact hK _ _ bel ⟨_,rfl,zz,ai rfl⟩
   iterate 6 ((try go_frame);refine wkQ ?_)
   try go_frame
   refine wkU (fun u hR K hK=> ?_) (fun o9=> ?_)
   ·have h2:QE wr.heap.size o2 u.val:=hr hR 2
    clear hR
    obtain⟨gm,rfl,hgm,hgl⟩:=h2
    rcases Nat.eq_zero_or_pos pn with h0|h0
    ·(subst h0;obtain rfl:c=[]:=List.length_eq_zero_iff.1 HPn.out;exact cZ _ _ 165 rfl (append_nil 165 _ 196 i0 Oc Hi0.out.1 ⟨gm,0,none⟩ _ _) (hK _ _ (brf) (show OA wr.heap.size [] _ _ from⟨rfl, .inr ⟨gm,0,#[],rfl,hgm,hgl,qaA _,by unfold maxLen;omega,rfl,rfl⟩⟩)))
    obtain⟨pb,poff,rfl,hq⟩:=HPx.out h0
    obtain⟨v9,w9,hrun,hown9,hb9⟩:=dM (P:=Tryz.prog) (w:=u.val) 165 165 196 i0 (v4 (0,0,0,0)) 4 32 Oc Hi0.out.1 Hi0.out.2.1 Hi0.out.2.2.1 Hi0.out.2.2.2 rfl (by decide) ⟨gm,0,none⟩ 0 0 [] rfl (fun _ _ h=>by simp at h) ⟨pb,poff,none⟩ pn pc (c.flatMap aH) (by rw[bh,HPn.out]) (MA (Q4At.below hq u.below)) (by omega) (by unfold maxLen;omega) (by omega)
    exact cZ _ _ 165 rfl hrun (hK _ _ hb9 (show OA wr.heap.size c v9 w9 from by have h9:=AY hown9 u.below.size;simp only[Nat.zero_add,List.nil_append]at h9;unfold OA;rw[HPn.out];exact h9))
   try go_frame
   refine wkU (fun u hR K hK=> ?_) (fun o10=> ?_)
   ·have h9:(OA wr.heap.size c) o9 u.val:=hr hR 9
    clear hR
    have H9:=YJ h9
    obtain⟨a9,c9,rfl⟩:=aT h9
    clear h9
    go_simp
    exact hK _ _ (brf) ⟨_,rfl,H9.out⟩
   try go_frame
   refine wkU (fun u hR K hK=> ?_) (fun o11=> ?_)
   ·have h10:QF wr.heap.size c o10 u.val:=hr hR 10
    clear hR
    obtain⟨x9,rfl,h9⟩:=h10
    have H9:=YJ h9
    obtain⟨a9,c9,rfl⟩:=aT h9
    clear h9
    go_simp
    exact hK _ _ bel ⟨_,_,rfl,ai rfl,au H9.out bel⟩
   try go_frame
   refine aI (fun u hR=> ?_)
   obtain⟨g,x,rfl,hg,hx⟩:QX wr.heap.size c o11 u.val:=hR 11 (by simp)
   have HGx:=YJ hg
   have HXx:=YJ hx
   have hbu:=u.below
   have HAu:=YJ ((hbu.block _ (ah HA.out)).trans HA.out)
   have HRu:=YJ ((hbu.block _ (ah HR.out)).trans HR.out)
   have HGu:=YJ ((hbu.block _ (ah HG.out)).trans HG.out)
   have HOu:=YJ (au HO.out hbu)
   have HVu:=YJ ((HRv.out.below hbu).snoc (AY hx zr))
   have hWX:=fB hb hbu
   have zX:W.heap.size+3≤u.val.heap.size:=qaD zr hbu.size
   clear hR hg hx HA HR HG HO HRv a0 az g0 gz gf e0 ze HQ HPx
   rw[←HTk.out]at HVu
   generalize u.val=X at*
   clear u hbu
   simp only[oas]
   refine fq _ rfl _ _ 79 rfl (W.heap.size+3) 167 i1 (.agg #[.slice none 0 0]) 1 24 nu Hi1.out.1 Hi1.out.2.1 Hi1.out.2.2.1 Hi1.out.2.2.2 rfl (by decide) _ k vs rfl HOu.out ⟨g,0,none⟩ 1 1 [x] rfl rfl ?c1 ?c2 ?c3 ?c4 ?c5 ?_
   case c1=>
    intro j u hu
    rw[jY,ag HGx.out]
    simpa using hu
   case c2=>
    intro u hu
    simp at hu
    subst hu
    obtain⟨_,_,rfl⟩:=aT HXx.out
    rfl
   case c3=>unfold maxLen;omega
   case c4=>omega
   case c5=>omega
   intro v' w4 hown4 hg4 _
   have HA4:=YJ ((hg4.block _ (ah HAu.out) (fun e=>aG HOu.out HAu.out (by decide) e.symm)).trans HAu.out)
   have HR4:=YJ ((hg4.block _ (ah HRu.out) (fun e=>aG HOu.out HRu.out (by decide) e.symm)).trans HRu.out)
   have HG4:=YJ ((hg4.block _ (ah HGu.out) (fun e=>aG HOu.out HGu.out (by decide) e.symm)).trans HGu.out)
   have hb4:Below W.heap.size W w4:=hWX.grown hg4 hWX.size (fun z hz=>by have:=(HOu.out.lt z hz).1;omega)
   have z4:W.heap.size+3≤w4.heap.size:=qaD zX hg4.size
   have HV4:=YJ (HVu.out.kept hg4 (fun g cs h1 h2=>by obtain⟨c,t,h3,h4⟩:=jC HOu.out g cs h1 h2;exact⟨c,t,h3,by rw[h4];decide⟩))
   have HO4:=YJ hown4
   obtain⟨va,vc,rfl⟩:=aT hown4
   clear hown4 hg4 HAu HRu HGu HOu HVu HGx HXx hWX zX
   have g0:w4.cell? ⟨W.heap.size+2,0,none⟩=some (.slice sad k scap):=(ag HG4.out 0).trans rfl
   have gz:=ah HG4.out
   have gf:=aC HG4.out
   iterate 2 (refine wpList_step (fun K hK=> ?_);go_simp;refine hK _ _ ?_;clear hK K)
   refine NoPanic.normal ?_
   go_wp2
   go_roundw
   case rel=>exact⟨k+1,by omega,by go_num,hb4.setCell (p:=⟨W.heap.size+2,0,none⟩) (by show _≤W.heap.size+2;omega) _,by simp;omega,YJ ((qaH _ _ _ _ (show W.heap.size≠W.heap.size+2 by omega)).trans HA4.out),YJ ((qaH _ _ _ _ (show W.heap.size+1≠W.heap.size+2 by omega)).trans HR4.out),_,vs++[x],YJ (Tu HG4.out 0 _),YJ (PR HO4.out HG4.out (by decide)),YJ (HV4.out.set HG4.out (by decide))⟩
   case measure=>first|(simp[intOf];done)|(simp[intOf];omega)
  ·obtain rfl:n=k:=by omega
   have r0:wr.cell? ⟨W.heap.size+1,0,none⟩=some (.slice none 0 0):=(ag HR.out 0).trans rfl
   have rz:=ah HR.out
   have rf:=aC HR.out
   obtain⟨sad,scap,rfl⟩:=aT HO.out
   have HVn:=HRv
   rw[HTn.out]at HVn
   clear HX HRv HLn HT
   go_wp2
   refine bodyPost_ret (v:= .agg #[.slice sad n scap]) (by simp[results,Tryz.results50,go_sem,r0,rz]) rfl ⟨_,rfl,hb.setCell (p:=⟨W.heap.size+1,0,none⟩) (by show _≤W.heap.size+1;omega) _,vs, ?_, ?_⟩
   ·have h1:=PR (i:=0) (u:= .slice sad n scap) HO.out HR.out (by decide)
    rw[HN.out]
    exact AY h1 (by omega)
   ·exact(HVn.out.set HR.out (by decide)).mono (by omega)
theorem Qu {w w':World} {base:Nat} {e:TypeId} {size n:Nat} {v:Value} {xs:List Value} {row:Option Nat} (h:w.ownsRow base e size v n xs) (hg:w.grownBy w' row) (hne:∀g cs,row=some g→w.heap[g]? =some cs→∃c t,cs= .cells c t (0,0)∧t≠e):w'.ownsRow base e size v n xs:=by
 refine h.kept hg ?_
 cases hr:row with
 |none=>cases hv:v.ownBlock<;>simp
 |some g=>
  right
  intro k
  rcases h.2 with⟨hv,_⟩|⟨g',cap,cur,hv,_,hh,_⟩
  ·rw[hv]at k;simp[Value.ownBlock]at k
  ·rw[hv]at k
   have:g'=g:=by simpa [Value.ownBlock]using k
   subst this
   obtain⟨c,t,h3,h4⟩:=hne _ _ hr hh
   cases h3
   exact h4 rfl
theorem SolO.kept {B:Nat} {w w':World} {v:Value} {css:List (List Q4)} {row:Option Nat} (h:SolO B w v css) (hg:w.grownBy w' row) (hne:∀g cs,row=some g→w.heap[g]? =some cs→∃c t,cs= .cells c t (0,0)∧t=81):SolO B w' v css:=by
 obtain⟨vs,h1,h2⟩:=h
 refine⟨vs,Qu h1 hg (fun g cs k1 k2=> ?_),h2.kept hg (fun g cs k1 k2=> ?_)⟩
 ·obtain⟨c,t,h3,h4⟩:=hne g cs k1 k2
  exact⟨c,t,h3,by rw[h4];decide⟩
 ·obtain⟨c,t,h3,h4⟩:=hne g cs k1 k2
  exact⟨c,t,h3,by rw[h4];decide⟩
def SolsR (B:Nat) (w:World) (vs:List Value) (l:List (List (List Q4))):Prop:=vs.length=l.length∧∀i (h1:i<vs.length) (h2:i<l.length),SolO B w vs[i] l[i]
theorem SolsR.snoc {B:Nat} {w:World} {vs:List Value} {l:List (List (List Q4))} {v:Value} {s:List (List Q4)} (h:SolsR B w vs l) (hv:SolO B w v s):SolsR B w (vs++[v]) (l++[s]):=by
 refine⟨by simp[h.1],fun i h1 h2=> ?_⟩
 by_cases hi:i<vs.length
 ·have hc:i<l.length:=by rw[←h.1];exact hi
  rw[List.getElem_append_left hi,List.getElem_append_left hc]
  exact h.2 i hi hc
 ·have he:i=vs.length:=by simp at h1;omega
  subst he
  have:=h.1
  simp only[List.getElem_append_right (qaA _),Nat.sub_self,List.getElem_cons_zero]
  rw[List.getElem_append_right (by omega)]
  simp only[this,Nat.sub_self,List.getElem_cons_zero]
  exact hv
theorem Qv {w:World} {B n:Nat} {v:Value} {vs:List Value} {l:List (List (List Q4))} (h:w.ownsRow B 81 1 v n vs) (hn:n=l.length) (hr:SolsR B w vs l):SolsV w v l:=by
 subst hn
 have hlen:=h.1
 have hX:=h.2
 rcases hX with⟨rfl,h0⟩|⟨g,cap,cur,rfl,hb,hh,hnc,hcm,hcs,htk⟩
 ·exact⟨none,0,0,rfl,h0,qaA _,fun h=>absurd h (by omega)⟩
 ·refine⟨_,_,_,rfl,rfl,hnc,fun _=>⟨g,0,rfl,fun i hi=> ?_⟩⟩
  have hi2:i<vs.length:=by omega
  refine⟨vs[i], ?_,(hr.2 i hi2 hi).sol⟩
  have h3:=(World.ownsRow.cells h rfl) i vs[i] (by simp[hi2])
  simpa [jY]using h3
def Rg (l:List (List (List Q4))) (W:World) (e:Ending) (w':World):Prop:=∃v,e= .returned v∧Below W.heap.size W w'∧SolsV w' v l
theorem Qj:(Tryz.prog.info? 81).map (fun i=>(i.zero,i.size,i.bytes))=some (some (.agg #[.slice none 0 0]),1,24):=by kernel_rfl
theorem Qk:Tryz.prog.underlying 22=some (.slice 81):=by kernel_rfl
theorem Py (l:List (List (List Q4))) (lv:Value) (W:World) (hl:l.length≤1000) (hL:∀s∈l,s.length≤1000∧∀c∈s,c.length≤1000) (h:SolsV W lv l):
  Calls Tryz.prog 13 #[lv] W (Rg l W):=by
 obtain⟨i1,hj0,hy0,hy1,hy2⟩:=info_parts Qj
 have Hi1:=YJ (And.intro hj0 (And.intro hy0 (And.intro hy1 hy2)))
 clear hj0 hy0 hy1 hy2
 obtain⟨la,n,lc,rfl,hn, -,hx⟩:=h
 have HX:=YJ hx
 have HN:=YJ hn
 have hn1:n≤1000:=by omega
 have HLn:=fun i (h:i<l.length)=>YJ (hL _ (qaB h))
 have HT:=fun i (h:i<l.length)=>YJ (qaI h)
 have HTn:Hid (l.take n=l):=YJ (by rw[←hn];exact List.take_length)
 clear hx hn hl hL
 go_enter Tryz.func13,Tryz.ntmps13
 go_wp2
 go_loopw [3,4] (fun s x wr=>∃k:Nat,k≤n∧x= .int .i64 k∧Below W.heap.size W wr∧∃vs,Hid (wr.ownsRow W.heap.size 81 1 s k vs)∧Hid (SolsR W.heap.size wr vs (l.take k))) (fun _ x _=>n-(intOf x).toNat)
 case atStart=>exact⟨0,by omega,rfl,brf,[],YJ (World.ownsRow_nil _ _ _ _),YJ ⟨rfl,fun i h=>by simp at h⟩⟩
 case round=>
  obtain⟨k,hk,rfl,hb,vs,HO,HR⟩:=hrel
  obtain⟨oa,oc,rfl⟩:=aT HO.out
  by_cases hlt:k<n
  ·have g1:(k:Int)<(n:Int):=by omega
   have g2:(0:Int)≤(k:Int):=by omega
   have hil:k<l.length:=by have:=HN.out;omega
   obtain⟨b,off,rfl,hi4⟩:=HX.out (by omega)
   obtain⟨sv,e0,hs⟩:=hi4 k hil
   have e0:=ab hb e0
   have ze:=qaC wr _ e0
   simp only at ze
   have HC:=YJ (PA l[k] sv wr (HLn k hil).out.1 (HLn k hil).out.2 (hs.below hb))
   have HTk:=HT k hil
   obtain⟨sa,sn,sc,rfl, -⟩:=hs
   clear hi4 HX HLn HT
   generalize l[k]=s at*
   go_wp2_with fail
   refine(HC.out).mono ?_
   rintro e w1 ⟨v9,rfl,hb1,hs1⟩
   have HS1:=YJ hs1
   have HO1:=YJ (au HO.out hb1)
   have HR1:Hid (SolsR W.heap.size w1 vs (l.take k)):=YJ ⟨HR.out.1,fun i h1 h2=>(HR.out.2 i h1 h2).below hb1⟩
   have hw1:=fB hb hb1
   obtain⟨a9,n9,c9,rfl, -⟩:=hs1.sol
   clear hs1 HC HO HR e0 ze
   have hbx:Below w1.heap.size w1 (w1.alloc (.cells #[.slice a9 n9 c9] 81)):=bel
   have hOx:=au HO1.out hbx
   have hNx:(w1.alloc (.cells #[.slice a9 n9 c9] 81)).heap[w1.heap.size]? =some (.cells #[.slice a9 n9 c9] 81 (0,0)):=ai rfl
   have hRx:SolsR W.heap.size (w1.alloc (.cells #[.slice a9 n9 c9] 81)) (vs++[.slice a9 n9 c9]) (l.take k++[s]):=SolsR.snoc ⟨HR1.out.1,fun i h1 h2=>(HR1.out.2 i h1 h2).below hbx⟩ ((HS1.out.mono (by have:=hb.size;omega)).below hbx)
   have HOx:=YJ hOx
   have HNx:=YJ hNx
   have HRx:=YJ hRx
   have zx:=hb.size
   have zx1:=hb1.size
   clear hOx hNx hRx HO1 HR1 HS1
   rw[←HTk.out]at HRx
   go_wp2_with (at_builtin;refine fq _ rfl _ _ 22 rfl W.heap.size 81 i1 (.agg #[.slice none 0 0]) 1 24 Qk Hi1.out.1 Hi1.out.2.1 Hi1.out.2.2.1 Hi1.out.2.2.2 rfl (by decide) _ k vs rfl HOx.out ⟨w1.heap.size,0,none⟩ 1 1 [.slice a9 n9 c9] rfl rfl ?c1 ?c2 ?c3 ?c4 ?c5 ?_)
   case c1=>
    intro j u hu
    rw[jY,ag HNx.out]
    simpa using hu
   case c2=>
    intro u hu
    simp at hu
    subst hu
    rfl
   case c3=>unfold maxLen;omega
   case c4=>omega
   case c5=>simp;omega
   intro v' w4 hown4 hg4 _
   have hb4:Below W.heap.size W w4:=(fB hw1 hbx).grown hg4 (by simp;omega) (fun z hz=>(HOx.out.lt z hz).1)
   have HR4:Hid (SolsR W.heap.size w4 (vs++[.slice a9 n9 c9]) (l.take (k+1))):=YJ ⟨HRx.out.1,fun i h1 h2=>(HRx.out.2 i h1 h2).kept hg4 (fun g cs h1 h2=>jC HOx.out g cs h1 h2)⟩
   have HO4:=YJ hown4
   clear hown4 hg4 HOx HNx HRx hbx
   go_wp2
   go_roundw
   case rel=>exact⟨k+1,by omega,by go_num,hb4,_,HO4,HR4⟩
   case measure=>first|(simp[intOf];done)|(simp[intOf];omega)
  ·obtain rfl:n=k:=by omega
   have HRn:=HR
   rw[HTn.out]at HRn
   clear HX HLn HT HR
   go_wp2
   go_ret
   exact⟨_,rfl,hb,Qv HO.out HN.out.symm HRn.out⟩
end
end Go.Proofs.YtnpmkepfpekhfaaGreatDoor
