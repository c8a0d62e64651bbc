/- texts: MD MC. -/
import Derived.Test.YtffbilcjhlncfaaGreatDoorDQS27
import Derived.Test.YtffbilcjhlncfaaGreatDoorDQS29
namespace Go.Proofs.YtffbilcjhlncfaaGreatDoor
set_option maxHeartbeats 8000000
set_option linter.all false
section
open Go.RowKit Go.Shelf Go.Lib
set_option maxRecDepth 100000
attribute [local go_sem] Ext.cell Ext.frozen
def JI (X:Nat→Prop) (p:Value):Prop:=∀ad n c,p= .slice (some ad) n c→0<n→¬X ad.block
def PartX (X:Nat→Prop) (w:World) (v:Value) (bs:List Bod):Prop:=∃a n c,v= .slice a n c∧bs.length=n∧n≤c∧
 (0<n→∃g off,a=some ⟨g,off,none⟩∧¬X g∧∀i (h:i<bs.length),∃p q,w.cell? ⟨g,off+i*2,none⟩=some p∧w.cell? ⟨g,off+i*2+1,none⟩=some q∧Q4s w p bs[i].1∧Q4s w q bs[i].2∧JI X p∧JI X q)
theorem PartX.part {X:Nat→Prop} {w:World} {v:Value} {bs:List Bod} (h:PartX X w v bs):PartV w v bs:=by
 obtain⟨a,n,c,hv,hn,hc,hx⟩:=h
 refine⟨a,n,c,hv,hn,hc,fun h0=> ?_⟩
 obtain⟨g,off,e,_,hi⟩:=hx h0
 exact⟨g,off,e,fun i h=>by obtain⟨p,q,h1,h2,h3,h4,_⟩:=hi i h;exact⟨p,q,h1,h2,h3,h4⟩⟩
theorem PartX.of {X:Nat→Prop} {B:Nat} {w:World} {v:Value} {bs:List Bod} (h:PartF B w v bs) (hX:∀g,X g→g<B):PartX X w v bs:=by
 obtain⟨a,n,c,hv,hn,hc,hx⟩:=h
 refine⟨a,n,c,hv,hn,hc,fun h0=> ?_⟩
 obtain⟨g,off,e,hB,hi⟩:=hx h0
 refine⟨g,off,e,fun h=>by have:=hX g h;omega,fun i h=> ?_⟩
 obtain⟨p,q,h1,h2,h3,h4,f1,f2⟩:=hi i h
 exact⟨p,q,h1,h2,h3,h4,fun ad n c e _ h=>by have:=f1 ad n c e;have:=hX _ h;omega,fun ad n c e _ h=>by have:=f2 ad n c e;have:=hX _ h;omega⟩
theorem PartX.turn {X Y:Nat→Prop} {w:World} {v:Value} {bs:List Bod} (h:PartX X w v bs) (hY:∀g,g<w.heap.size→Y g→X g):PartX Y w v bs:=by
 obtain⟨a,n,c,hv,hn,hc,hx⟩:=h
 refine⟨a,n,c,hv,hn,hc,fun h0=> ?_⟩
 obtain⟨g,off,e,hB,hi⟩:=hx h0
 refine⟨g,off,e,fun h=> ?_,fun i h=> ?_⟩
 ·obtain⟨p,q,h1,_⟩:=hi 0 (by omega)
  exact hB (hY g (qaC w _ h1) h)
 ·obtain⟨p,q,h1,h2,h3,h4,f1,f2⟩:=hi i h
  exact⟨p,q,h1,h2,h3,h4,fun ad n c e hn hy=>f1 ad n c e hn (hY _ (by subst e;exact h3.lt hn) hy),fun ad n c e hn hy=>f2 ad n c e hn (hY _ (by subst e;exact h4.lt hn) hy)⟩
theorem Fd {X:Nat→Prop} {w w':World} {v:Value} {xs:List Q4} (h:Q4s w v xs) (hn:JI X v) (hk:∀g,g<w.heap.size→¬X g→w'.heap[g]? =w.heap[g]?):Q4s w' v xs:=by
 obtain⟨a,n,c,rfl,hl,hc,hx⟩:=id h
 refine⟨a,n,c,rfl,hl,hc,fun h0=> ?_⟩
 obtain⟨b,off,rfl,hi⟩:=hx h0
 have hb:b<w.heap.size:=h.lt h0
 have hk':=hk b hb (hn _ _ _ rfl h0)
 refine⟨b,off,rfl,fun i hi'=> ?_⟩
 obtain⟨e0,e1,e2,e3⟩:=hi i hi'
 have hcell:∀j,w'.cell? ⟨b,j,none⟩=w.cell? ⟨b,j,none⟩:=fun j=>World.cell?_of_block (w:=w) hk'
 exact⟨(hcell _).trans e0,(hcell _).trans e1,(hcell _).trans e2,(hcell _).trans e3⟩
theorem PartX.keep {X:Nat→Prop} {w w':World} {v:Value} {bs:List Bod} (h:PartX X w v bs) (hk:∀g,g<w.heap.size→¬X g→w'.heap[g]? =w.heap[g]?):PartX X w' v bs:=by
 obtain⟨a,n,c,hv,hn,hc,hx⟩:=h
 refine⟨a,n,c,hv,hn,hc,fun h0=> ?_⟩
 obtain⟨g,off,e,hB,hi⟩:=hx h0
 refine⟨g,off,e,hB,fun i h=> ?_⟩
 obtain⟨p,q,h1,h2,h3,h4,f1,f2⟩:=hi i h
 have hg:=hk g (qaC w _ h1) hB
 exact⟨p,q,(World.cell?_of_block (w:=w) hg).trans h1,(World.cell?_of_block (w:=w) hg).trans h2,Fd h3 f1 hk,Fd h4 f2 hk,f1,f2⟩
theorem PartF.mono {B C:Nat} {w:World} {v:Value} {bs:List Bod} (h:PartF B w v bs) (hC:C≤B):PartF C w v bs:=by
 obtain⟨a,n,c,hv,hn,hc,hx⟩:=h
 refine⟨a,n,c,hv,hn,hc,fun h0=> ?_⟩
 obtain⟨g,off,e,hB,hi⟩:=hx h0
 exact⟨g,off,e,by omega,fun i h=>by obtain⟨p,q,h1,h2,h3,h4,f1,f2⟩:=hi i h;exact⟨p,q,h1,h2,h3,h4,f1.mono hC,f2.mono hC⟩⟩
def ScR (B sb:Nat) (w:World) (pv:Value) (bss:List (List Bod)):Prop:=
 ∃vs,w.ownsRow B 154 1 pv bss.length vs∧∀i (h:i<bss.length),∃v,vs[i]? =some v∧PartX (fun g=>pv.ownBlock=some g∨g=sb) w v bss[i]
theorem ScR.below {B sb:Nat} {w w':World} {pv:Value} {bss:List (List Bod)} (h:ScR B sb w pv bss) (hb:Below w.heap.size w w'):ScR B sb w' pv bss:=by
 obtain⟨vs,ho,hx⟩:=h
 exact⟨vs,au ho hb,fun i hi=>by obtain⟨v,e,h⟩:=hx i hi;exact⟨v,e,h.keep (fun g hg _=>hb.block g hg)⟩⟩
def PtsV (w:World) (v:Value) (ps:List (List Bod)):Prop:=Each w v PartV ps
theorem PtsV.below {w w':World} {v:Value} {ps:List (List Bod)} (h:PtsV w v ps) (hb:Below w.heap.size w w'):PtsV w' v ps:=Each.below (fun _ _ _ _ hb h=>PartV.below h hb) h hb
theorem ScR.parts {B sb:Nat} {w:World} {pv:Value} {bss:List (List Bod)} (h:ScR B sb w pv bss):PtsV w pv bss:=by
 obtain⟨vs,ho,hx⟩:=h
 rcases ho.2 with⟨rfl,h0⟩|⟨g,cap,cur,rfl,hb,hh,hnc,hcm,hcs,htk⟩
 ·exact⟨none,0,0,rfl,h0,qaA _,fun h=>absurd h (by omega)⟩
 ·refine⟨_,_,_,rfl,rfl,hnc,fun _=>⟨g,0,rfl,fun i hi=> ?_⟩⟩
  obtain⟨v,e,h⟩:=hx i hi
  refine⟨v, ?_,h.part⟩
  rw[bq hh,qfW, ←Array.getElem?_toList, ←e, ←htk,qdx (by omega)]
def SgP (B:Nat) (bs:List Bod):Value→World→Prop:=fun v w=>∃g a n c,v= .slice (some ⟨g,0,none⟩) 1 1∧B≤g∧w.heap[g]? =some (.cells #[.slice a n c] 154 (0,0))∧PartF B w (.slice a n c) bs
theorem GI (B:Nat) (bs:List Bod):dR (SgP B bs):=fun _ _ _ hb ⟨g,a,n,c,h1,h2,h3,h4⟩=>⟨g,a,n,c,h1,h2,(hb.block _ (ah h3)).trans h3,h4.below hb⟩
def qiv (B:Nat) (bs:List Bod):Value→World→Prop:=fun v w=>PartF B w v bs
theorem GJ (B:Nat) (bs:List Bod):dR (qiv B bs):=fun _ _ _ hb h=>PartF.below h hb
theorem Ge:(Tryz.prog.info? 154).map (fun i=>(i.zero,i.size,i.bytes))=some (some (.slice none 0 0),1,24):=by kernel_rfl
theorem Gg:Tryz.prog.underlying 166=some (.slice 154):=by kernel_rfl
def ScP (bss:List (List Bod)) (W:World) (e:Ending) (w':World):Prop:=∃sb mb pv,e= .returned (.pointer (some ⟨sb,0,none⟩))∧Below W.heap.size W w'∧w'.heap[sb]? =some (.cells #[pv, .map (some mb)] 168 (0,0))∧
 OwM w' mb 0 (.map [])∧W.heap.size≤mb∧W.heap.size≤sb∧mb≠sb∧PtsV w' pv bss
theorem Fe (l:List (List (List Q4))) (lv:Value) (W:World) (hok:∀s∈l,(∀c∈s,DC c)∧s.length≤1000000) (hl:l.length≤1000000) (h:SolsV W lv l):
  Calls Tryz.prog 38 #[lv] W (ScP (l.map (·.map bp)) W):=by
 obtain⟨a,n,cc,rfl,hn,_,hx⟩:=h
 have HX:=YJ hx
 have HN:=YJ hn
 have HOk:=fun i (h:i<l.length)=>YJ (hok _ (qaB h))
 obtain⟨i0,hi0,hz0,hz1,hz2⟩:=info_parts Ge
 have Hi0:=YJ (And.intro hi0 (And.intro hz0 (And.intro hz1 hz2)))
 obtain⟨V,HV⟩:∃V,Hid ((W.alloc (.map #[] 0)).alloc (.cells #[.slice none 0 0, .map (some W.heap.size)] 168)=V):=⟨_,YJ rfl⟩
 have hV:Below W.heap.size W V:=by rw[←HV.out];exact bel
 have HM:Hid (OwM V W.heap.size 0 (.map [])):=YJ (by rw[←HV.out];exact(World.ownsMap_made W Tryz.prog 58 RV).alloc _)
 have HS:Hid (V.heap[W.heap.size+1]? =some (.cells #[.slice none 0 0, .map (some W.heap.size)] 168 (0,0))):=YJ (by rw[←HV.out];exact ai (by simp))
 have hmm:= @run_makeMap Tryz.prog
 clear hx hn hok hi0 hz0 hz1 hz2
 go_enter Tryz.func38,Tryz.ntmps38
 go_wp2
 rw[HV.out]
 go_loopw [11] (fun x wr=>∃k:Nat,k≤n∧x= .int .i64 k∧Below W.heap.size W wr∧Hid (OwM wr W.heap.size 0 (.map []))∧Hid (∃pv,wr.heap[W.heap.size+1]? =some (.cells #[pv, .map (some W.heap.size)] 168 (0,0))∧ScR (W.heap.size+2) (W.heap.size+1) wr pv ((l.take k).map (·.map bp)))) (fun x _=>n-(intOf x).toNat)
 case atStart=>exact⟨0,by omega,rfl,hV,HM,YJ ⟨_,HS.out,[],qds _ _ _ _,fun i h=>by simp at h⟩⟩
 case round=>
  clear HV HM HS hV
  obtain⟨k,hk,rfl,hb,HM,HS⟩:=hrel
  obtain⟨pv,hS,hR⟩:=HS.out
  have HSb:=YJ hS
  have HR:=YJ hR
  have Htl:Hid (((l.take k).map (·.map bp)).length=k):=YJ (by rw[qdo,qge];have:=HN.out;omega)
  obtain⟨vs,ho, -⟩:=hR
  rw[Htl.out]at ho
  obtain⟨pa,pc,rfl⟩:=aT ho
  clear hS ho HS vs
  by_cases hlt:k<n
  ·have g1:(k:Int)<(n:Int):=by omega
   have g2:(0:Int)≤(k:Int):=by omega
   have hil:k<l.length:=by have:=HN.out;omega
   obtain⟨b,off,rfl,hi4⟩:=HX.out (by omega)
   obtain⟨cu,e0,hq⟩:=hi4 k hil
   have e0:=ab hb e0
   have ze:=qaC wr _ e0
   simp only at ze
   have HQ:=YJ (SolV.below hq hb)
   have Htk:Hid ((l.take (k+1)).map (·.map bp)=(l.take k).map (·.map bp)++[l[k].map bp]):=YJ (by rw[qaI hil,qgh];rfl)
   have HPo:=fun W' (h:Below wr.heap.size wr W')=>YJ (BZ l[k] cu W' (HOk k hil).out.1 (HOk k hil).out.2 (SolV.below HQ.out h))
   obtain⟨ua,um,uc,rfl, -⟩:=hq
   obtain⟨bd,Hbd⟩:∃bd,Hid (l[k].map bp=bd):=⟨_,YJ rfl⟩
   rw[Hbd.out]at Htk HPo
   clear hi4 HX HOk Hbd HQ
   have hbs:W.heap.size+1<wr.heap.size:=ah HSb.out
   obtain⟨wx,HWX⟩:∃wx,Hid (wr.alloc (.cells #[.slice ua um uc] 75)=wx):=⟨_,YJ rfl⟩
   have hbx:Below wr.heap.size wr wx:=by rw[←HWX.out];exact bel
   have HSx:=YJ ((hbx.block _ (ah HSb.out)).trans HSb.out)
   have HUx:Hid (wx.heap[wr.heap.size]? =some (.cells #[.slice ua um uc] 75 (0,0))):=YJ (by rw[←HWX.out];exact ai rfl)
   have HMx:=YJ (show OwM wx W.heap.size 0 (.map []) by rw[←HWX.out];exact HM.out.alloc _)
   have HRx:=YJ (HR.out.below hbx)
   clear HM HR HSb
   go_wp2
   rw[HWX.out]
   clear HWX e0 ze
   obtain⟨s0,s1,sz⟩:=xv HSx.out
   obtain⟨u0,uz⟩:wx.cell? ⟨wr.heap.size,0,none⟩=some (.slice ua um uc)∧wr.heap.size<wx.heap.size:=⟨(bq HUx.out 0).trans rfl,ah HUx.out⟩
   apply bW [0] [0,1,2,3,4,5,6,7] 8 [] 9 [10,11] [sv _,sv _,sv _,sv _,sv _,sv _,⟨qiv wx.heap.size bd,by first|exact GI _ _|exact GJ _ _⟩,⟨SgP wx.heap.size bd,by first|exact GI _ _|exact GJ _ _⟩] (fun _=>True) (by kernel_rfl) (by kernel_rfl) (by kernel_rfl) (fun _=>trivial)
   ·(try go_frame)
    refine du rfl rfl ?_
    apply Exists.intro
    apply And.intro
    ·intro w9 h9
     go_simp
     first|rfl|(simp only[h9];rfl)
    refine⟨rfl, ?_⟩
    exact gR
   iterate 6 ((try go_frame);refine wkQ ?_)
   try go_frame
   refine wkU (fun u hR K hK=> ?_) (fun o6=> ?_)
   ·clear hR
    go_simp
    refine((HPo _ (fB hbx u.below)).out).mono ?_
    rintro e w9 ⟨v9,rfl,hb9, -,hp9⟩
    exact hK _ _ hb9 (PartF.mono hp9 u.below.size)
   try go_frame
   refine wkU (fun u hR K hK=> ?_) (fun o7=> ?_)
   ·have h6:qiv wx.heap.size bd o6 u.val:=hr hR 6
    clear hR
    have HP6:=YJ h6
    have zz:=u.below.size
    obtain⟨a6,n6,c6,rfl, -⟩:=h6
    go_simp
    exact hK _ _ bel ⟨_,a6,n6,c6,rfl,zz,ai rfl,HP6.out.below bel⟩
   try go_frame
   refine aI (fun u hR=> ?_)
   obtain⟨g7,a7,n7,c7,rfl,hg7,hh7,hp7⟩:SgP wx.heap.size bd o7 u.val:=hR 7 (by simp)
   have HH7:=YJ hh7
   have HP7:=YJ hp7
   have HSu:=YJ ((u.below.block _ (ah HSx.out)).trans HSx.out)
   have HMu:=YJ (show OwM u.val W.heap.size 0 (.map [])from HMx.out.kept (row:=some (W.heap.size+1)) (kt u.below) (by simp))
   have HRu:=YJ (HRx.out.below u.below)
   have hWx:Below W.heap.size W u.val:=(fB hb hbx).trans (u.below.mono (fB hb hbx).size)
   have hux:=u.below.size
   have hxs:=hbx.size
   have hrow:∀g,(Value.slice pa k pc).ownBlock=some g→g<wx.heap.size:=fun g hg=>by
    obtain⟨vs,ho,_⟩:=HRx.out
    exact Ci ho hg
   have HRw:=YJ hrow
   clear hR hh7 hp7 s0 s1 sz u0 uz HSx HUx HMx HRx hrow HPo
   generalize u.val=wy at*
   clear u
   obtain⟨vs,ho,hvs⟩:=HRu.out
   rw[Htl.out]at ho
   have HO:=YJ ho
   have HVS:=YJ hvs
   clear ho hvs HRu
   simp only[oas]
   refine wpList_append_own_at _ rfl _ _ 166 rfl (W.heap.size+2) 154 i0 (.slice none 0 0) 1 24 Gg Hi0.out.1 Hi0.out.2.1 Hi0.out.2.2.1 Hi0.out.2.2.2 rfl (by decide) _ k _ rfl HO.out ⟨g7,0,none⟩ 1 1 [.slice a7 n7 c7] rfl rfl ?c1 ?c2 ?c3 ?c4 ?c5 ?_
   case c1=>
    intro jj uu hu
    rw[jY,bq HH7.out jj]
    simpa using hu
   case c2=>intro v hv;simp at hv;subst hv;rfl
   case c3=>unfold maxLen;omega
   case c4=>omega
   case c5=>omega
   intro v' w4 hown4 hg4 _ hu4
   have HS4:=YJ ((hg4.block _ (ah HSu.out) (fun e=>aG HO.out HSu.out (by decide) e.symm)).trans HSu.out)
   have hb4:Below W.heap.size W w4:=hWx.grown hg4 hWx.size (fun z hz=>by have:=(HO.out.lt z hz).1;omega)
   have HM4:Hid (OwM w4 W.heap.size 0 (.map [])):=YJ (HMu.out.kept hg4 (fun e=>by have:=(HO.out.lt _ e.symm).1;omega))
   have HX4:Hid (∀i (h:i<((l.take (k+1)).map (·.map bp)).length),∃v,(vs++[.slice a7 n7 c7])[i]? =some v∧PartX (fun g=>v'.ownBlock=some g∨g=W.heap.size+1) w4 v ((l.take (k+1)).map (·.map bp))[i]):=YJ (by
    rw[Htk.out]
    have hX0:∀g,((Value.slice pa k pc).ownBlock=some g∨g=W.heap.size+1)→g<wx.heap.size:=fun g hg=>by
     rcases hg with hg|hg
     ·exact HRw.out g hg
     ·omega
    have hvl:vs.length=k:=by have:=HO.out.1;omega
    have hkp:∀{v:Value} {bs:List Bod},PartX (fun g=>(Value.slice pa k pc).ownBlock=some g∨g=W.heap.size+1) wy v bs→PartX (fun g=>v'.ownBlock=some g∨g=W.heap.size+1) w4 v bs:=fun{v bs} h=>by
     have h1:PartX (fun g=>(v'.ownBlock=some g∨g=W.heap.size+1)∨(Value.slice pa k pc).ownBlock=some g) wy v bs:=h.turn (fun g hg hy=>by
      rcases hy with(hy|hy)|hy
      ·rcases hu4 with hu|hu
       ·exact .inl (show(Value.slice pa k pc).ownBlock=some g from hu.symm.trans hy)
       ·rw[hu]at hy;cases hy;omega
      ·exact .inr hy
      ·exact .inl hy)
     have h2:=h1.keep (w':=w4) (fun g hg hn=>hg4.block g hg (fun e=>hn (.inr e.symm)))
     exact h2.turn (fun g hg hy=> .inl hy)
    intro i hi
    by_cases h1:i<((l.take k).map (·.map bp)).length
    ·obtain⟨v,e1,e2⟩:=HVS.out i h1
     rw[qgn h1]
     exact⟨v,by rw[List.getElem?_append_left (by rw[hvl];rw[Htl.out]at h1;exact h1)];exact e1,hkp e2⟩
    ·have h2:i=((l.take k).map (·.map bp)).length:=by simp at hi h1 ⊢;omega
     subst h2
     refine⟨.slice a7 n7 c7,by rw[List.getElem?_append_right (by rw[hvl,Htl.out];exact qaA _),hvl,Htl.out,Nat.sub_self];rfl, ?_⟩
     simp only[List.getElem_append_right (qaA _),Nat.sub_self,qdt]
     exact hkp (PartX.of HP7.out hX0))
   have HO4:Hid (w4.ownsRow (W.heap.size+2) 154 1 v' ((l.take (k+1)).map (·.map bp)).length (vs++[.slice a7 n7 c7])):=YJ (by rw[Htk.out,qaE,Htl.out];exact hown4)
   clear hown4 hg4 hu4 HO HVS HRw HP7 HH7 HSu HMu hWx
   refine⟨trivial, ?_⟩
   obtain⟨va,vc,rfl⟩:=aT HO4.out
   have Htl2:Hid (((l.take (k+1)).map (·.map bp)).length=k+1):=YJ (by rw[Htk.out,qaE,Htl.out];rfl)
   have HSt4:Hid (ScR (W.heap.size+2) (W.heap.size+1) w4 (.slice va ((l.take (k+1)).map (·.map bp)).length vc) ((l.take (k+1)).map (·.map bp))):=YJ ⟨_,HO4.out,HX4.out⟩
   rw[Htl2.out]at HSt4
   rw[Htl2.out]
   have HOb:Hid ((Value.slice va (k+1) vc).ownBlock≠some (W.heap.size+1)):=YJ (by
    have:=HO4.out
    rw[Htl2.out]at this
    exact fun e=>aG this HS4.out (by decide) e)
   clear HO4 HX4 Htl2
   obtain⟨s0,s1,sz⟩:=xv HS4.out
   have sf:=aC HS4.out
   simp only[oas]
   go_wp2
   refine NoPanic.normal ?_
   go_wp2
   go_roundw
   case rel=>
    refine⟨k+1,by omega,by go_num,hb4.setCell (by simp) _,YJ (HM4.out.setCell (by simp) _),YJ ⟨.slice va (k+1) vc,by have:=Tu HS4.out 0 (.slice va (k+1) vc);simpa using this, ?_⟩⟩
    obtain⟨vs2,ho2,hx2⟩:=HSt4.out
    refine⟨vs2,aF ho2 ⟨W.heap.size+1,0,none⟩ _ (fun e=>HOb.out e.symm),fun i hi=> ?_⟩
    obtain⟨v,e,h⟩:=hx2 i hi
    exact⟨v,e,h.keep (fun g hg hn=>qaH w4 ⟨W.heap.size+1,0,none⟩ _ g (fun e=>hn (.inr e)))⟩
   case measure=>simp[intOf];try omega
  ·obtain rfl:k=n:=by omega
   have e:l.take k=l:=qaK (by have:=HN.out;omega)
   have HP:Hid (PtsV wr (.slice pa k pc) (l.map (·.map bp))):=YJ (by have:=HR.out.parts;rwa [e]at this)
   clear HX HOk HR
   go_wp2
   go_ret
   exact⟨_,_,_,rfl,hb,HSb.out,HM.out,qaA _,by omega,by omega,HP.out⟩
def dN (a b:Nat):Nat:=a ^^^ (a&&& b)
theorem Gh (a b i:Nat):(dN a b).testBit i=(a.testBit i&& !b.testBit i):=by
 unfold dN
 rw[Nat.testBit_xor,qgq]
 cases a.testBit i<;>cases b.testBit i<;>rfl
theorem CT (a b:Nat) (ha:a<18446744073709551616) (hb:b<18446744073709551616):bits .andNot .u64 (a:Int) (b:Int)=((dN a b:Nat):Int):=by
 have h1:(BitVec.ofInt 64 (a:Int))=BitVec.ofNat 64 a:=by rw[BitVec.ofInt_natCast]
 have h2:(BitVec.ofInt 64 (b:Int))=BitVec.ofNat 64 b:=by rw[BitVec.ofInt_natCast]
 have h3:(BitVec.ofNat 64 a&&& ~~~ BitVec.ofNat 64 b)=BitVec.ofNat 64 (dN a b):=by
  apply BitVec.eq_of_getLsbD_eq
  intro i hi
  rw[BitVec.getLsbD_and,BitVec.getLsbD_not,BitVec.getLsbD_ofNat,BitVec.getLsbD_ofNat,BitVec.getLsbD_ofNat,Gh]
  simp[hi]
 have h4:dN a b<2 ^ 64:=Nat.xor_lt_two_pow (by omega) (Nat.lt_of_le_of_lt Nat.and_le_left (by omega))
 show IntKind.u64.wrap ((BitVec.ofInt 64 (a:Int)&&& ~~~ BitVec.ofInt 64 (b:Int)).toNat:Int)=_
 rw[h1,h2,h3,BitVec.toNat_ofNat,Nat.mod_eq_of_lt h4,IntKind.wrap_u64]
 omega
theorem Lc {s m:Nat} (h0:0<s) (hs:s<4096) (h:s<2 ^ m):Lib.ctz 64 s<m:=by
 obtain⟨q,hm,_⟩:=Lib.ctzFrom_spec 64 s h0 (by omega)
 have hc:Lib.ctz 64 s=Lib.ctzFrom 64 s:=by unfold Lib.ctz;rw[if_neg (by omega)]
 rw[hc]
 refine Nat.lt_of_not_le fun h12=> ?_
 have h1:2 ^ m≤2 ^ Lib.ctzFrom 64 s:=Nat.pow_le_pow_right (by decide) h12
 have h2:2 ^ Lib.ctzFrom 64 s≤s:=by
  have:=Nat.le_mul_of_pos_right (2 ^ Lib.ctzFrom 64 s) (show 0<2*q+1 by omega)
  omega
 omega
theorem Cz (m:Nat):∀f s,s<4096→s<2 ^ m→∀n∈TI f s,n<m
 |0,_,_,_=>fun n h=>by simp[TI]at h
 |f+1,s,hs,h2=>fun n h=>by
  unfold TI at h
  split at h
  ·cases h
  ·rename_i h0
   have h1:=Od (show 0<s by omega)
   rcases alsk.1 h with rfl|h
   ·exact Lc (by omega) hs h2
   ·exact Cz m f _ (by omega) (by omega) n h
def mn (G:List Nat) (grp:Nat) (l:List Nat):Nat:=l.foldl (fun s k=>s |||(G.getD k 0&&& grp)) 0
theorem Gi (G:List Nat) (grp:Nat) (l:List Nat) (k:Nat):mn G grp (l++[k])=mn G grp l |||(G.getD k 0&&& grp):=by simp[mn]
theorem Oj (G:List Nat) (grp m:Nat) (h:grp<2 ^ m) (l:List Nat):mn G grp l<2 ^ m:=by
 unfold mn
 have key:∀(l:List Nat) (s:Nat),s<2 ^ m→l.foldl (fun s k=>s |||(G.getD k 0&&& grp)) s<2 ^ m:=by
  intro l
  induction l with
  |nil=>intro s hs;exact hs
  |cons k l ih=>intro s hs;exact ih _ (Nat.or_lt_two_pow hs (Nat.lt_of_le_of_lt Nat.and_le_right h))
 exact key l 0 (Nat.two_pow_pos m)
def Ro (G:List Nat) (grp:Nat):Nat→Nat→Nat→Nat
 |0,out,_=>out
 |f+1,out,fr=>if fr=0 then out else Ro G grp f (out |||mn G grp (lf fr)) (dN (mn G grp (lf fr)) out)
def cM (out fr:Nat):Nat:=2*(4096-out)+if fr=0 then 0 else 1
theorem MH {a b:Nat} (h:dN b a≠0):a<a |||b:=by
 refine Nat.lt_of_le_of_ne Nat.left_le_or fun e=>h ?_
 apply qgp
 intro i
 rw[Gh,Nat.zero_testBit]
 have:=congrArg (fun x=>x.testBit i) e
 simp only[Nat.testBit_or]at this
 rw[Bool.and_eq_false_iff]
 cases ha:a.testBit i with
 |true=>right;rfl
 |false=>
  left
  rw[ha]at this
  simpa using this.symm
theorem Gj {out fr nx:Nat} (hf:fr≠0) (ho:out<4096) (hn:out |||nx<4096):cM (out |||nx) (dN nx out)<cM out fr:=by
 unfold cM
 rw[if_neg hf]
 by_cases h:dN nx out=0
 ·rw[if_pos h]
  have:out≤out |||nx:=Nat.left_le_or
  omega
 ·rw[if_neg h]
  have:=MH h
  omega
theorem TN (G:List Nat) (grp f out:Nat):Ro G grp f out 0=out:=by
 cases f with
 |zero=>rfl
 |succ f=>rw[Ro,if_pos rfl]
theorem DN (G:List Nat) (grp:Nat) (hg:grp<4096):∀f g out fr,out<4096→cM out fr≤f→cM out fr≤g→Ro G grp f out fr=Ro G grp g out fr
 |0,g,out,fr,ho,h,_=>by
  have:fr=0:=qgk fun h0=>by unfold cM at h;rw[if_neg h0]at h;omega
  subst this
  rw[TN,TN]
 |f+1,0,out,fr,ho,_,h=>by
  have:fr=0:=qgk fun h0=>by unfold cM at h;rw[if_neg h0]at h;omega
  subst this
  rw[TN,TN]
 |f+1,g+1,out,fr,ho,h1,h2=>by
  unfold Ro
  split
  ·rfl
  ·rename_i h0
   have hn:out |||mn G grp (lf fr)<4096:=Nat.or_lt_two_pow (n:=12) ho (Oj G grp 12 hg _)
   have:=Gj (nx:=mn G grp (lf fr)) h0 ho hn
   exact DN G grp hg f g _ _ hn (by omega) (by omega)
def car (G:List Nat) (grp n:Nat):Nat:=Ro G grp 8193 (2 ^ n) (2 ^ n)
theorem JJ (G:List Nat) (grp out fr:Nat) (hg:grp<4096) (ho:out<4096) (h0:fr≠0):
  Ro G grp 8193 out fr=Ro G grp 8193 (out |||mn G grp (lf fr)) (dN (mn G grp (lf fr)) out):=by
 have hn:out |||mn G grp (lf fr)<4096:=Nat.or_lt_two_pow (n:=12) ho (Oj G grp 12 hg _)
 have h1:Ro G grp 8193 out fr=Ro G grp 8192 (out |||mn G grp (lf fr)) (dN (mn G grp (lf fr)) out):=by
  rw[Ro,if_neg h0]
 rw[h1]
 have hd:=Gj (nx:=mn G grp (lf fr)) h0 ho hn
 have hc:cM out fr≤8193:=by unfold cM;split<;>omega
 exact DN G grp hg _ _ _ _ hn (by omega) (by omega)
theorem JK {w:World} {base:Nat} {e:TypeId} {v:Value} {l:List Nat} (h:w.ownsRow base e 1 v l.length (l.map iV)) (h0:0<l.length):
  ∃g cap,v= .slice (some ⟨g,0,none⟩) l.length cap∧l.length≤cap∧g<w.heap.size∧base≤g∧∀i (hi:i<l.length),w.cell? ⟨g,i,none⟩=some (.int .i64 (l[i]:Nat)):=by
 rcases h.2 with⟨_,h1⟩|⟨g,cap,cur,rfl,hb,hh,hc,_,_,ht⟩
 ·omega
 ·refine⟨g,cap,rfl,hc,ah hh,hb,fun i hi=> ?_⟩
  have h2:(cur.toList.take (l.length*1))[i]? =(l.map iV)[i]? :=by rw[ht]
  rw[qdx (by omega),List.getElem?_map,List.getElem?_eq_getElem hi]at h2
  rw[bq hh]
  simpa [iV]using h2
def GphAt (w:World) (g:Nat) (G:List Nat):Prop:=∀i (h:i<G.length),w.cell? ⟨g,i,none⟩=some (.int .u64 (G[i]:Nat))
theorem GphAt.below {w w':World} {g:Nat} {G:List Nat} (h:GphAt w g G) (hb:Below w.heap.size w w'):GphAt w' g G:=fun i hi=>ab hb (h i hi)
theorem Ff (G:List Nat) (n grp gb cap:Nat) (W:World) (hG:∀x∈G,x<4096) (hm:G.length≤12) (hn:n<G.length) (hg:grp<2 ^ G.length) (hcap:G.length≤cap) (hat:GphAt W gb G) (hT:TabAt 3 Lib.deBruijn64tab W):
  Calls Tryz.prog 133 #[.slice (some ⟨gb,0,none⟩) G.length cap, .int .i64 n, .int .u64 grp] W (Ret W (.int .u64 (car G grp n))):=by
 have hg12:grp<4096:=qaG hg (by have:=Nat.pow_le_pow_right (n:=2) (by decide) hm;simpa using this)
 have hpn:(2:Nat) ^ n<4096:=by
  have:(2:Nat) ^ n<2 ^ 12:=Nat.pow_lt_pow_right (by decide) (by omega)
  exact this
 have hpn2:(2:Nat) ^ n<2 ^ G.length:=Nat.pow_lt_pow_right (by decide) hn
 have hs:nr [(n:Int)]=2 ^ n:=by simp[nr]
 have HSet:=fun W' g (h:W'.heap[g]? =some (.cells #[.int .i64 n] 3 (0,0)))=>YJ (Cx [(n:Int)] (.slice (some ⟨g,0,none⟩) 1 1) W' (fun x hx=>by simp at hx;omega) (by simp) ⟨_,1,1,rfl,rfl,qaA _,fun _=>⟨g,0,rfl,fun i hi=>by
  obtain rfl:i=0:=by simpa using hi
  exact(bq h 0).trans rfl⟩⟩)
 rw[hs]at HSet
 have HL:=fun s W' (h:s<4096) (hb:Below W.heap.size W W')=>YJ (ES s W' h (nz hT hb))
 have HAt:=YJ hat
 have HGl:=fun i (h:i<G.length)=>YJ (hG _ (qaB h))
 have HGd:=fun i (h:i<G.length)=>YJ (show G.getD i 0=G[i] by simp[List.getD,h])
 have HStep:=fun out fr h1 h2=>YJ (JJ G grp out fr hg12 h1 h2)
 have HZ:=fun out=>YJ (TN G grp 8193 out)
 have HNl:=fun l=>YJ (Oj G grp 12 hg12 l)
 have HNl2:=fun l=>YJ (Oj G grp G.length hg l)
 have HNs:=fun l k=>YJ (Gi G grp l k)
 have HN0:Hid (mn G grp []=0):=YJ rfl
 have HEl:=fun s (h:s<4096) (h2:s<2 ^ G.length)=>YJ (fun k (hk:k∈lf s)=>Cz G.length s s h h2 k hk)
 have HDn:=fun a b (h:a<2 ^ G.length)=>YJ (show dN a b<2 ^ G.length from Nat.lt_of_le_of_lt (by
  have:dN a b≤a:=by
   apply Nat.le_of_testBit
   intro i hi
   rw[Gh]at hi
   simp at hi
   exact hi.1
  exact this) h)
 obtain⟨P,HP⟩:∃P:Nat,Hid (2 ^ n=P):=⟨_,YJ rfl⟩
 have HR:Hid (car G grp n=Ro G grp 8193 P P):=YJ (by rw[←HP.out];rfl)
 rw[HP.out]at HSet hpn hpn2
 generalize car G grp n=res at*
 clear hs hG hat hT
 go_enter Tryz.func133,Tryz.ntmps133
 have HS1:=YJ ((HSet (W.alloc (.cells #[.int .i64 n] 3)) W.heap.size (ai rfl)).out)
 have HS2:=YJ ((HSet ((W.alloc (.cells #[.int .i64 n] 3)).alloc (.cells #[.int .i64 n] 3)) (W.heap.size+1) (ai (by simp))).out)
 clear HSet
 go_wp2_with fail
 refine(HS1.out).mono ?_
 rintro e w1 ⟨rfl,rfl⟩
 go_wp2_with fail
 refine(HS2.out).mono ?_
 rintro e w1 ⟨rfl,rfl⟩
 clear HS1 HS2
 obtain⟨V,HV⟩:∃V,Hid ((W.alloc (.cells #[.int .i64 n] 3)).alloc (.cells #[.int .i64 n] 3)=V):=⟨_,YJ rfl⟩
 have hV:Below W.heap.size W V:=by rw[←HV.out];exact bel
 go_wp2
 rw[HV.out]
 clear HV
 go_loopw [7,8] (fun o f wr=>∃out fr:Nat,o= .int .u64 out∧f= .int .u64 fr∧out<4096∧Hid (fr<2 ^ G.length)∧fr<4096∧Below W.heap.size W wr∧Hid (Ro G grp 8193 out fr=res)) (fun o f _=>cM (intOf o).toNat (intOf f).toNat)
 case atStart=>exact⟨P,P,rfl,rfl,hpn,YJ hpn2,hpn,hV,YJ HR.out.symm⟩
 case round=>
  clear hV hpn hpn2 HR
  obtain⟨out,fr,rfl,rfl,ho,Hf2,hf,hb,HC⟩:=hrel
  by_cases h0:fr=0
  ·subst h0
   have HE:Hid (out=res):=YJ (by rw[←HC.out,(HZ out).out])
   go_wp2
   go_ret
   exact⟨by rw[HE.out];rfl,hb⟩
  ·have hne:((fr:Int)!=0)=true:=by simpa using h0
   have HLi:=YJ ((HL fr wr hf hb).out)
   have HE:=YJ ((HEl fr hf Hf2.out).out)
   have HSt:=YJ ((HStep out fr ho h0).out)
   have Hlen:Hid ((lf fr).length≤4096):=YJ (qaD (BS fr fr) (by omega))
   generalize lf fr=l at*
   clear HL HEl HStep HZ
   unfold ME at HLi
   go_wp2_with fail
   refine(HLi.out).mono ?_
   rintro e w1 ⟨v,rfl,hb1,hown⟩
   have hw1:=fB hb hb1
   have HO:=YJ hown
   obtain⟨va,vc,rfl⟩:=aT hown
   obtain⟨N,HN⟩:∃N,Hid (l.length=N):=⟨_,YJ rfl⟩
   rw[HN.out]at Hlen
   have hNl:=Hlen.out
   have HRow:Hid (0<N→∃g cap,va=some ⟨g,0,none⟩∧vc=cap∧N≤cap∧∀i (hi:i<l.length),w1.cell? ⟨g,i,none⟩=some (.int .i64 (l[i]:Nat))):=YJ (fun h=>by
    obtain⟨g,cp,e,h1,_,_,h2⟩:=JK hown (by rw[HN.out];exact h)
    injection e with e1 e2 e3
    exact⟨g,cp,e1,e3,by rw[←HN.out];exact h1,h2⟩)
   rw[HN.out]
   clear HLi hown HO
   go_wp2
   go_loopw [9,23] (fun s i wr=>∃k m:Nat,k≤N∧i= .int .i64 k∧s= .int .u64 m∧wr=w1∧Hid (m=mn G grp (l.take k))) (fun _ i _=>N-(intOf i).toNat)
   case atStart=>exact⟨0,0,by omega,rfl,rfl,rfl,YJ (by rw[qdu];exact HN0.out.symm)⟩
   case round=>
    obtain⟨k,m,hk,rfl,rfl,rfl,Hm⟩:=hrel
    have hm12:m<4096:=by rw[Hm.out];exact(HNl _).out
    by_cases hlt:k<N
    ·have g1:(k:Int)<(N:Int):=by omega
     have g2:(0:Int)≤(k:Int):=by omega
     have hkl:k<l.length:=by have:=HN.out;omega
     obtain⟨g,cp,rfl,rfl,hcp,hcl⟩:=HRow.out (by omega)
     have c0:=hcl k hkl
     have cz:=qaC wr _ c0
     simp only at cz
     have hin:=HE.out l[k] (qaB hkl)
     have Hnx:Hid (mn G grp (l.take (k+1))=mn G grp (l.take k) |||(G.getD l[k] 0&&& grp)):=YJ (by rw[qaI hkl,(HNs _ _).out])
     generalize l[k]=q at*
     have d0:=ab hw1 (HAt.out q hin)
     have dz:=qaC wr _ d0
     simp only at dz
     rw[(HGd q hin).out]at Hnx
     have hx12:=(HGl q hin).out
     have q1:(q:Int)<(G.length:Int):=by omega
     have q2:(0:Int)≤(q:Int):=by omega
     generalize G[q]=x at*
     have e1:=bits_and_u64_nat x grp (by omega) (by omega)
     have hle:x&&& grp<4096:=Nat.lt_of_le_of_lt Nat.and_le_left hx12
     have e2:=bits_or_u64_nat m (x&&& grp) (by omega) (by omega)
     clear HRow hcl hin HGl HGd HAt
     generalize x&&& grp=y at*
     go_wp2
     go_roundw
     case rel=>exact⟨k+1,m |||y,by omega,by go_num,rfl,by first|trivial|rfl,YJ (by rw[Hnx.out,Hm.out])⟩
     simp[intOf];try omega
    ·obtain rfl:k=N:=by omega
     have HmE:Hid (m=mn G grp l):=YJ (by rw[Hm.out,qaK (by have:=HN.out;omega)])
     have hm2:m<2 ^ G.length:=by rw[HmE.out];exact(HNl2 _).out
     have HD2:=YJ ((HDn m out hm2).out)
     rw[←HmE.out]at HSt
     have e1:=CT m out (by omega) (by omega)
     have e2:=bits_or_u64_nat out m (by omega) (by omega)
     have ho2:out |||m<4096:=Nat.or_lt_two_pow (n:=12) ho hm12
     have hd12:dN m out<4096:=qaG HD2.out (by have:=Nat.pow_le_pow_right (n:=2) (by decide) hm;simpa using this)
     have hdec:=Gj (nx:=m) h0 ho ho2
     have HC2:Hid (Ro G grp 8193 (out |||m) (dN m out)=res):=YJ (by rw[←HSt.out,HC.out])
     clear HSt HC Hm HmE HRow
     generalize dN m out=d at*
     generalize out |||m=oo at*
     go_wp2
     go_roundw
     case rel=>exact⟨oo,d,rfl,rfl,ho2,HD2,hd12,hw1,HC2⟩
     first|(simp[intOf];done)|(simpa [intOf]using hdec)
end
end Go.Proofs.YtffbilcjhlncfaaGreatDoor
