/- texts: APB GI2 APC APD. -/
import Derived.Test.YtnpmkepfpekhfaaGreatDoorAQS42
namespace Go.Proofs.YtnpmkepfpekhfaaGreatDoor
set_option maxHeartbeats 8000000
set_option linter.all false
section
open Go.RowKit Go.Shelf Go.Lib
set_option maxRecDepth 100000
def qeP (s:Spl):Spl:=(s.1,s.2.1,(-s.2.2.1, -s.2.2.2.1, -s.2.2.2.2))
def qfE:Spl:=([],[],(0,0,0))
def bkS (p:List Spl) (k:Nat):List Spl:=(List.range k).map fun j=>qeP (p.getD (p.length-1-j) qfE)
def qeF (p:List Spl):List Spl:=bkS p p.length
theorem qft (p:List Spl) (k:Nat):bkS p (k+1)=bkS p k++[qeP (p.getD (p.length-1-k) qfE)]:=by unfold bkS;rw[List.range_succ,qgh];rfl
theorem qfh (p:List Spl) (k:Nat):(bkS p k).length=k:=by unfold bkS;simp
theorem qfF {p:List Spl} {l:List Nat} (h:l=bkw p.length):l.map (fun j=>qeP (p.getD j qfE))=qeF p:=by
 subst h
 unfold bkw qeF bkS
 rw[List.map_map]
 rfl
theorem qfG {p:List Spl} {s:Spl} (h:s∈qeF p):∃t∈p,s=qeP t:=by
 unfold qeF bkS at h
 obtain⟨j,hj,rfl⟩:=altt.1 h
 have hj':j<p.length:=ultv.1 hj
 have h2:p.length-1-j<p.length:=by omega
 exact⟨p[p.length-1-j],qaB h2,by simp[List.getD,h2]⟩
theorem qeQ {l:List (List (List Q4))}:∀p K,cpA l K p=0→∀s∈p,mK s.2.2=0
 | [],_,_,s,hs=>by cases hs
 |t::p,K,h,s,hs=>by
  unfold cpA at h
  split at h
  ·rename_i e;exact absurd h e
  ·split at h
   ·rename_i e;exact absurd h e
   ·split at h
    ·rename_i e;exact absurd h e
    ·rename_i e
     split at h
     ·exact absurd h (by decide)
     ·split at h
      ·exact absurd h (by decide)
      ·split at h
       ·exact absurd h (by decide)
       ·rcases alsk.1 hs with rfl|hs
        ·exact Classical.not_not.1 e
        ·exact qeQ p _ h s hs
theorem qeR {l:List (List (List Q4))} {p:List Spl} (h:cpE l p=0):eB l=0∧∀s∈p,mK s.2.2=0:=by
 unfold cpE at h
 split at h
 ·rename_i e;exact absurd h e
 ·rename_i e
  split at h
  ·exact absurd h (by decide)
  ·exact⟨Classical.not_not.1 e,qeQ p _ h⟩
def qfu (g o:List Int) (x y z:Int):Value→World→Prop:=fun v w=>∃gv ov,v= .agg #[gv,ov, .int .i64 x, .int .i64 y, .int .i64 z]∧OwnX 0 w gv g∧OwnX 0 w ov o
def qfv (g o:List Int) (x y z:Int):Value→World→Prop:=fun v w=>∃b gv ov,v= .slice (some ⟨b,0,none⟩) 1 1∧w.heap[b]? =some (.cells #[gv,ov, .int .i64 x, .int .i64 y, .int .i64 z] 60 (0,0))∧OwnX 0 w gv g∧OwnX 0 w ov o
theorem qdE (g o:List Int) (x y z:Int):dR (qfu g o x y z):=fun _ _ _ hb ⟨gv,ov,h1,h2,h3⟩=>⟨gv,ov,h1,h2.below hb,h3.below hb⟩
theorem qdF (g o:List Int) (x y z:Int):dR (qfv g o x y z):=fun _ _ _ hb ⟨b,gv,ov,h1,h4,h2,h3⟩=>⟨b,gv,ov,h1,(hb.block _ (ah h4)).trans h4,h2.below hb,h3.below hb⟩
attribute [local go_sem] Ext.cell Ext.frozen
theorem qeS (p:List Spl) (pv:Value) (W:World) (hp:p.length≤1000) (hs:∀s∈p,s.1.length≤1000∧s.2.1.length≤1000) (h:SplsN W pv p):Calls Tryz.prog 32 #[pv] W (fun e w'=>∃v,e= .returned v∧Below W.heap.size W w'∧(∃a n c,v= .slice a n c)∧Kj w' v p):=by
 obtain⟨i1,Hi1⟩:=qfT qcn
 have HCi:=fun v (xs:List Int) W' (k:WkV W v xs) (hx:xs.length≤1000) (hb:Below W.heap.size W W')=>YJ (Ui v xs W' (k.1.below hb) k.2 (by omega))
 have HLs:=fun i (h:i<p.length)=>YJ (hs _ (qaB h))
 have HT:=fun i (h:i<p.length)=>YJ (qaI h)
 obtain⟨a,n,c,rfl,hn, -,hx⟩:=h
 have HX:=YJ hx
 have Hn:=YJ hn
 have HTn:Hid (p.take n=p):=YJ (by rw[←hn];exact qgi)
 rw[hn]at hp
 clear hx hn hs
 go_enter Tryz.func32,Tryz.ntmps32
 go_wp2
 go_loopw [3,4] (fun s x wr=>∃k:Nat,k≤n∧x= .int .i64 k∧Below W.heap.size W wr∧∃rs:List RSp,Hid (wr.ownsRow W.heap.size 60 5 s rs.length (rs.flatMap qcc))∧Hid (∀r∈rs,OwnR wr r)∧Hid (rs.map (·.2.2)=p.take k)) (fun _ x _=>n-(intOf x).toNat)
 case atStart=>exact⟨0,by omega,rfl,brf,[],YJ (qds _ _ _ _),YJ (fun r h=>by cases h),YJ rfl⟩
 case round=>
  obtain⟨k,hk,rfl,hb,rs,HO,HR,HP⟩:=hrel
  obtain⟨oa,oc,rfl⟩:=aT HO.out
  by_cases hlt:k<n
  ·have q1:(k:Int)<(n:Int):=by omega
   have q2:(0:Int)≤(k:Int):=by omega
   have hkl:k<p.length:=by rw[Hn.out];exact hlt
   obtain⟨g,off,rfl,hi⟩:=HX.out (by omega)
   obtain⟨gv,ov,e0,e1,e2,e3,e4,k1,k2⟩:=hi k hkl
   have HTk:=HT k hkl
   have Hls:=HLs k hkl
   obtain⟨s,Hsp⟩:∃s,Hid (p[k]=s):=⟨_,YJ rfl⟩
   rw[Hsp.out]at e2 e3 e4 k1 k2 HTk Hls
   obtain⟨sg,so,sx,sy,sz⟩:=s
   have K1:=YJ (fun W' hb=>(HCi gv sg W' k1 Hls.out.1 hb).out)
   have K2:=YJ (fun W' hb=>(HCi ov so W' k2 Hls.out.2 hb).out)
   simp only at e2 e3 e4
   have c0:=ab hb e0
   have c1:=ab hb e1
   have c2:=ab hb e2
   have c3:=ab hb e3
   have c4:=ab hb e4
   have z0:=qaC wr _ c0
   simp only at z0
   obtain⟨ga,gn,gc,rfl⟩:=k1.1.sl
   obtain⟨oa2,on2,oc2,rfl⟩:=k2.1.sl
   have hrl:rs.length≤1000:=by
    have:=congrArg List.length HP.out
    rw[qdo,qge]at this
    omega
   clear HCi HLs HT hi HX e0 e1 e2 e3 e4 k1 k2 Hls
   go_wp2
   apply aj [] [0,1,2,3,4,5,6,7,8,9,10,11,12,13,14,15,16,17,18,19] 20 [21] [sv _,sv _,sv _,sv _,sv _,sv _,⟨qeM 0 sg,by first|exact qdG _ _|exact qdE _ _ _ _ _|exact qdF _ _ _ _ _⟩,sv _,sv _,sv _,sv _,sv _,⟨qeM 0 so,by first|exact qdG _ _|exact qdE _ _ _ _ _|exact qdF _ _ _ _ _⟩,sv _,sv _,sv _,sv _,sv _,⟨qfu sg so sx sy sz,by first|exact qdG _ _|exact qdE _ _ _ _ _|exact qdF _ _ _ _ _⟩,⟨qfv sg so sx sy sz,by first|exact qdG _ _|exact qdE _ _ _ _ _|exact qdF _ _ _ _ _⟩] (by kernel_rfl) (by kernel_rfl)
   iterate 6 ((try go_frame);refine wkQ ?_)
   try go_frame
   refine wkU (fun u hR K hK=> ?_) (fun o6=> ?_)
   ·clear hR
    go_simp
    refine((K1.out _ (fB hb u.below))).mono ?_
    rintro e w9 ⟨v9,rfl,hb9,ho9⟩
    exact hK _ _ hb9 (AY ho9 (by omega))
   iterate 5 ((try go_frame);refine wkQ ?_)
   try go_frame
   refine wkU (fun u hR K hK=> ?_) (fun o12=> ?_)
   ·clear hR
    go_simp
    refine((K2.out _ (fB hb u.below))).mono ?_
    rintro e w9 ⟨v9,rfl,hb9,ho9⟩
    exact hK _ _ hb9 (AY ho9 (by omega))
   iterate 5 ((try go_frame);refine wkQ ?_)
   try go_frame
   refine wkU (fun u hR K hK=> ?_) (fun o18=> ?_)
   ·have h6:qeM 0 sg o6 u.val:=hr hR 6
    have h12:qeM 0 so o12 u.val:=hr hR 12
    clear hR
    obtain⟨a2,c2,rfl⟩:=aT h6
    obtain⟨a4,c4,rfl⟩:=aT h12
    go_simp
    exact hK _ _ (brf) ⟨_,_,rfl,h6,h12⟩
   try go_frame
   refine wkU (fun u hR K hK=> ?_) (fun o19=> ?_)
   ·have h18:(qfu sg so sx sy sz) o18 u.val:=hr hR 18
    clear hR
    obtain⟨gv,ov,rfl,k2,k4⟩:=h18
    obtain⟨a2,c2,rfl⟩:=aT k2
    obtain⟨a4,c4,rfl⟩:=aT k4
    go_simp
    exact hK _ _ bel ⟨_,_,_,rfl,ai rfl,au k2 bel,au k4 bel⟩
   try go_frame
   refine aI (fun u hR=> ?_)
   have k7:qfv sg so sx sy sz o19 u.val:=hR 19 (by simp)
   obtain⟨g9,gv,ov,rfl,hg9,k2,k4⟩:=k7
   have hbu:=fB hb u.below
   have HO7:=YJ (au HO.out u.below)
   have HR7:Hid (∀r∈rs,OwnR u.val r):=YJ (fun r hr=>(HR.out r hr).below u.below)
   have K2':=YJ k2
   have K4':=YJ k4
   have HG9:=YJ hg9
   obtain⟨a2,c2',rfl⟩:=aT k2
   obtain⟨a4,c4',rfl⟩:=aT k4
   clear hR HO HR k2 k4 hg9 c0 c1 c2 c3 c4 z0 K1 K2
   generalize u.val=wx at*
   clear u
   simp only[oas]
   refine wpList_append_own _ rfl _ _ 58 rfl W.heap.size 60 i1 _ 5 72 qco Hi1.out.1 Hi1.out.2.1 Hi1.out.2.2.1 Hi1.out.2.2.2 rfl (by decide) _ rs.length _ rfl HO7.out ⟨g9,0,none⟩ 1 1 [.slice a2 sg.length c2', .slice a4 so.length c4', .int .i64 sx, .int .i64 sy, .int .i64 sz] rfl rfl (fun j u hu=>by rw[jY,ag HG9.out];simpa using hu) (fun u hu=>by simp at hu;rcases hu with rfl|rfl|rfl|rfl|rfl<;>rfl) (by unfold maxLen;omega) (by omega) hbu.size ?_
   intro v' w4 hown4 hg4 _
   have hrow:=qcp HO7.out
   have hb4:Below W.heap.size W w4:=hbu.grown hg4 hbu.size (fun z hz=>(HO7.out.lt z hz).1)
   obtain⟨r9,Hr9⟩:∃r9:RSp,Hid (r9=(.slice a2 sg.length c2', .slice a4 so.length c4',sg,so,sx,sy,sz)):=⟨_,YJ rfl⟩
   have HO4:Hid (w4.ownsRow W.heap.size 60 5 v' (rs++[r9]).length ((rs++[r9]).flatMap qcc)):=YJ (by
    rw[qaE,qgj,Hr9.out]
    exact hown4)
   have HR4:Hid (∀r∈rs++[r9],OwnR w4 r):=YJ (fun r hr=>by
    rcases altl.1 hr with hr|hr
    ·exact(HR7.out r hr).kept hg4 hrow
    ·rw[ultg]at hr
     rw[hr,Hr9.out]
     exact OwnR.kept ⟨K2'.out,K4'.out⟩ hg4 hrow)
   have HP4:Hid ((rs++[r9]:List RSp).map (·.2.2)=p.take (k+1)):=YJ (by
    rw[qgh,HP.out,HTk.out,Hr9.out]
    rfl)
   clear hown4 hg4 hrow HO7 HR7 K2' K4' HG9 HTk HP Hsp
   obtain⟨va,vc,rfl⟩:=aT HO4.out
   clear Hr9
   generalize rs++[r9]=rs2 at*
   go_wp2
   refine NoPanic.normal ?_
   go_wp2
   go_roundw
   case rel=>exact⟨k+1,by omega,by go_num,hb4,rs2,HO4,HR4,HP4⟩
   simp[intOf];try omega
  ·obtain rfl:k=n:=by omega
   have HZ:Hid (Kj wr (.slice oa rs.length oc) p):=YJ (by
    have:=qcH HO.out HR.out
    rwa [HP.out,HTn.out]at this)
   clear HCi HLs HT HX HO HR HP
   go_wp2
   go_ret
   exact⟨_,rfl,hb,⟨_,_,_,rfl⟩,HZ.out⟩
end
section
open Go.RowKit
section
variable {P:Program} {md:Region.Mode} {ops:Array Oper}
def qfi (o:Oper):Bool:=match o.op with
 | .defer _=>false
 |_=>true
theorem qfw {Kn:Act→World→Prop} (h:LetsOut (NoPanic (OnlyN Kn))):False:=by
 obtain⟨_,_,h⟩:=h
 exact h
theorem qfO {L n:Nat} {o:Oper} {a:Act} {K K' Kn:Act→World→Prop} {Q':Exit→Act→World→Prop} (hK:∀a w,K a w→K' a w):∀r,o.upon P a K (NoPanic (OnlyN Kn)) r→o.uponIn (Fence.wide.inRound L) n P a K' Q' r
 | .ok (.value v) w',h=>hK _ _ h
 | .ok .skip w',h=>hK _ _ h
 | .ok (.defer d) w',h=>hK _ _ h
 | .ok (.enter f args) w',h=>⟨fun e=>(by cases e),CallsIn.inRound L (callsIn_wide.2 (Calls.mono h fun e w'' k=>by
   cases e with
   |returned v=>exact hK _ _ k
   |panicked chain=>exact(k:False).elim
   |outgrown=>exact(qfw k).elim))⟩
 | .ok (.row row args) w',h=>⟨fun e=>(by cases e),fun c cs _=>by
   obtain⟨v,w2,r,s⟩:=h c cs
   exact⟨v,w2,hK _ _ r,stepsIn_wide.2 s⟩⟩
 | .ok (.round ..) w',h=>(h:False).elim
 | .halt (.panic v) w',h=>(h:False).elim
 | .halt e w',h=>by cases e<;>exact(h:False).elim
theorem qfx {L n:Nat} {o:Oper} {a:Act} {K K' Kn:Act→World→Prop} {Q':Exit→Act→World→Prop} {w:World} (hc:qfi o=true) (hK:∀a w,K a w→K' a w) (h:o.wp P a w K (NoPanic (OnlyN Kn))∨(o.asks P a w∧LetsOut (NoPanic (OnlyN Kn)))):o.wpIn (Fence.wide.inRound L) n P a w K' Q':=by
 rcases h with h|⟨_,h⟩
 ·unfold Oper.wp at h
  unfold Oper.wpIn
  have hd:∀c,o.op≠ .defer c:=fun c e=>by unfold qfi at hc;rw[e]at hc;cases hc
  rw[Oper.semAt_plain _ _ _ hd]
  exact⟨fun f hf=>trivial,qfO hK _ h⟩
 ·exact(qfw h).elim
theorem qdK {L n:Nat} {Kn:Act→World→Prop} {Q':Exit→Act→World→Prop} (hc:∀(i:Nat) (o:Oper),ops[i]? =some o→qfi o=true) (hQ:∀a w,Kn a w→Q' .normal a w):
  ∀(f:Nat) (listed:Array Bool) (a:Act) (w:World),wpAny P md ops (NoPanic (OnlyN Kn)) f listed a w→wpAnyIn (Fence.wide.inRound L) n P md ops Q' f listed a w
 |0,listed,a,w,h=>⟨h.1,hQ _ _ h.2⟩
 |f+1,listed,a,w,h=>by
  refine⟨fun h0=>hQ _ _ (h.1 h0),fun i hi=> ?_⟩
  have h1:=h.2 i hi
  unfold wpOp at h1
  unfold wpOpIn
  cases ho:ops[i]? with
  |none=>
   rw[ho]at h1
   exact qdK hc hQ f _ _ _ h1
  |some o=>
   rw[ho]at h1
   simp only at h1 ⊢
   split at h1
   ·rename_i hw
    rw[if_pos hw]
    exact qfx (hc i o ho) (fun a' w' h'=>qdK hc hQ f _ a' w' h') h1
   ·rename_i hw
    rw[if_neg hw]
    exact⟨fun g hg=>trivial,qdK hc hQ f _ _ _ h1⟩
theorem qet {L n id:Nat} {l:List Oper} {Q':Exit→Act→World→Prop} {a:Act} {w:World} (hm:P.follows .mixedOrders=true) (hc:(l.all qfi)=true)
  (h:wpAny P .any l.toArray (NoPanic (OnlyN fun a w=>Q' .normal a w)) l.toArray.size (Array.replicate l.toArray.size false) a {w with drawn:=w.drawn+1}):(Code.region id l.toArray true).wpIn (Fence.wide.inRound L) n P Q' a w:=
 wpIn_region_any hm (qdK (fun i o ho=>by
  have:=alsi.1 hc o
  rw[qdp]at ho
  exact this (List.mem_of_getElem? ho)) (fun _ _ h=>h) _ _ _ _ h)
end
end
section
open Go.RowKit Go.Shelf Go.Lib
set_option maxRecDepth 100000
attribute [local go_sem] Oper.semAt_some Ext.cell Ext.frozen
def qfS (A:Int) (p:List Spl) (W:World) (e:Ending) (w':World):Prop:=Below W.heap.size W w'∧((A≠0∧e= .returned (.tuple #[.slice none 0 0, .int .i64 A]))∨(A=0∧∃a n c,e= .returned (.tuple #[.slice a n c, .int .i64 0])∧Kj w' (.slice a n c) (qeF p)))
def spF {w:World} {a:Option Addr} {n:Nat} (p:List Spl) (x:SpE w a n):Spl:=qeP (p.getD x.1.1 qfE)
def MnI (p:List Spl) (w:World) (a:Option Addr) (n ob:Nat) (W0:World) (pre:List (SpE w a n)) (X:World):Prop:=ButM ob W0 X∧∃v,∃rs:List RSp,X.heap[ob]? =some (.cells #[v] 58 (0,0))∧X.ownsRow W0.heap.size 60 5 v rs.length (rs.flatMap qcc)∧(∀r∈rs,OwnR X r)∧rs.map (·.2.2)=pre.map (spF p)
theorem qeK {X Y:World} {r:RSp} {row:Option Nat} (h:OwnR X r) (hg:X.grownBy Y row) (hr:∀r,row=some r→∃o:Obj,X.heap[r]? =some o∧o.isCells=false):OwnR Y r:=⟨CC h.1 hg hr,CC h.2 hg hr⟩
theorem qfH (p:List Spl) (w:World) (a:Option Addr) (n ob:Nat) (W0:World) (ho:ob<W0.heap.size):OwnFrom W0.heap.size (MnI p w a n ob W0):=by
 rintro pre X Y row ⟨h1,v,rs,h2,h3,h4,h5⟩ hg hr
 have hc:=fun r e=>(hr r e).2
 exact⟨Cc h1 hg (qaA _) ho (fun r e=>(hr r e).1),v,rs,Ck ob (fun(_:Unit)=>#[v]) _ () X Y row h2 hg hc,CC h3 hg hc,fun r hr=>qeK (h4 r hr) hg hc,h5⟩
theorem qfQ {b:Nat} {a:Option Addr} {n:Nat} {A B C:World} (h:KpS b a n A B) (k:KpS b a n B C):KpS b a n A C:=h.trans k
theorem qfR {b:Nat} {a:Option Addr} {n:Nat} {w:World} (hb:b<w.heap.size) (ha:∀g off,a=some ⟨g,off,none⟩→0<n→g<w.heap.size) (W:World) (l:Nat) (o o':Obj) (hl:w.heap.size≤l) (_:W.heap[l]? =some o) (_:o.isCells=false) (_:o.isWalk=false):KpS b a n W (W.putObj l o'):=
 ⟨World.putObj_heap_other (by omega),fun h0 g off e=>World.putObj_heap_other (by have:=ha g off e h0;omega)⟩
theorem qeG (w:World) (g i:Nat) (u:Value):w.grownBy (w.setCell ⟨g,i,none⟩ u) (some g):=⟨rfl,rfl,rfl,(KeepsWalks.setCell w _ u).size,fun k _ hk=>qaH _ _ _ k (fun e=>hk (by rw[e]))⟩
theorem qfl {mb i:Nat} {W X:World} {u:Value} (h:ButM mb W X):ButM mb W (X.setCell ⟨mb,i,none⟩ u):=
 ⟨h.1.setCell (qaA _) u,qaD h.2.1 (qeG X mb i u).size,fun k hk hn=>(qaH _ _ _ k hn).trans (h.2.2 k hk hn)⟩
theorem qfy {w:World} {r:RSp} {g i:Nat} {cs:Array Value} {T:TypeId} {u:Value} (h:OwnR w r) (hg:w.heap[g]? =some (.cells cs T (0,0))) (hT:T≠3):OwnR (w.setCell ⟨g,i,none⟩ u) r:=by
 have key:∀g' o,some g=some g'→w.heap[g']? =some o→∃c t,o= .cells c t (0,0)∧t≠3:=fun g' o e k=>by
  cases e
  rw[hg]at k
  exact⟨cs,T,(qgb k).symm,hT⟩
 exact⟨Qu h.1 (qeG w g i u) key,Qu h.2 (qeG w g i u) key⟩
theorem qfb (l:List (List (List Q4))) (p:List Spl) (lv pv:Value) (W:World) (hL:∀s∈l,∀c∈s,c.length≤1000000) (hp:p.length≤300) (hs:∀s∈p,s.1.length≤1000∧s.2.1.length≤1000) (h:SolsV W lv l) (h2:Kj W pv p) (hT:TabAt 1 Lib.deBruijn64tab W):
  Calls Tryz.prog 31 #[lv,pv] W (qfS (cpE l p) p W):=by
 obtain⟨i1,Hi1⟩:=qfT qcn
 have HCk:=YJ (qdN l p lv pv W hL hp hs h h2 hT)
 have HOp:=fun x y z W' h1 h2 h3=>YJ (ER x y z W' h1 h2 h3)
 have HCl:=fun v xs W' (k:Ints W' v xs) (hx:xs.length≤1000)=>YJ (qeZ v xs W' k (by omega))
 have Hz:Hid (cpE l p=0→∀s∈p,mK s.2.2=0):=YJ (fun h=>(qeR h).2)
 have Hbk:=fun(xs:List Nat)=>YJ (@qfF p xs)
 have HlV:Hid (∃a n c,lv= .slice a n c):=YJ (by obtain⟨a,n,c,rfl,_⟩:=h;exact⟨a,n,c,rfl⟩)
 obtain⟨la,ln,lc,rfl⟩:=HlV.out
 have H2:=YJ h2
 have Hs:=YJ hs
 obtain⟨pa,pn,pc,rfl,hpn, -,hpx⟩:=h2
 have Hpx:=YJ hpx
 have HBk:=fun W'=>YJ (qfD pa pn pc W')
 rw[hpn]at hp Hbk
 have Hpn:=YJ hpn
 clear h hL hT HlV hpn hpx hs
 generalize cpE l p=A at*
 refine(callsIn_wide (n:=6)).1 ?_
 refine callsIn_of_wp_marks Tryz.func31 rfl trivial ?_ rfl
 simp only[Tryz.ntmps31,List.size_toArray,qdn,List.length_nil,Nat.reduceAdd,Nat.reduceSub,Array.replicate_succ,Array.replicate_zero,List.push_toArray,List.append_toArray,List.nil_append,List.cons_append]
 gi_wp2_with fail
 refine⟨trivial, ?_⟩
 refine(callsIn_wide.2 (HCk.out)).mono ?_
 rintro e w1 ⟨rfl,hb1⟩
 clear HCk
 by_cases hA:A=0
 ·subst hA
  have Hz':=YJ (Hz.out rfl)
  clear Hz
  gi_wp2_with fail
  refine⟨trivial, ?_⟩
  refine(callsIn_wide.2 ((HBk _).out)).mono ?_
  rintro e w2 ⟨rfl,rfl⟩
  gi_wp2
  obtain⟨W0,HW0⟩:∃W0,Hid ((w1.alloc (.cells #[.slice none 0 0] 58)).alloc (.cells #[.slice pa pn pc] 58)=W0):=⟨_,YJ rfl⟩
  have hB0:Below w1.heap.size w1 W0:=by rw[←HW0.out];exact bel
  have hO0:W0.heap[w1.heap.size]? =some (.cells #[.slice none 0 0] 58 (0,0)):=by rw[←HW0.out];exact(aB (by simp)).trans (ai rfl)
  have hK0:W0.heap[w1.heap.size+1]? =some (.cells #[.slice pa pn pc] 58 (0,0)):=by rw[←HW0.out];exact ai (by simp)
  have hsz:W0.heap.size=w1.heap.size+2:=by rw[←HW0.out];simp
  rw[HW0.out]
  clear HW0 HBk
  have hw0:=fB hb1 hB0
  have HS0:Hid (Kj W0 (.slice pa pn pc) p):=YJ (qbN H2.out hw0)
  have Hga:Hid (∀g off,pa=some ⟨g,off,none⟩→0<pn→g<w1.heap.size):=YJ (fun g off e h0=>by
   obtain⟨g',off',e',hi⟩:=Hpx.out h0
   rw[e]at e'
   cases e'
   obtain⟨q,r,e0,_⟩:=hi 0 (by have:=Hpn.out;omega)
   have:=qaC W _ e0
   simp only at this
   have:=hb1.size
   omega)
  have hwz:=hw0.size
  have hwz1:=hb1.size
  clear Hpx
  refine wpIn_rangeFunc_ownH rfl (by omega) (gf:=107) (lb:=#[.pointer (some ⟨w1.heap.size+1,0,none⟩)]) rfl trivial (enters_of Tryz.func107 (by kernel_rfl) rfl)
   (qfa W0 pa pn pc p HS0.out (w1.heap.size+1) hK0 (by omega) (6-1) (by omega)) qfQ (qfR (w:=W0) (by omega) (fun g off e h0=>by have:=Hga.out g off e h0;omega)) (brf) (fun _=>rfl)
   (MnI p W0 pa pn w1.heap.size W0)
   (fun _ _ _=>False)
   (qfH p W0 pa pn w1.heap.size W0 (by omega))
   (fun _ _ _ _ _ hs _ _=>hs)
   ⟨ButM.refl _ _,_,[],hO0,qds _ _ _ _,(fun r h=>by cases h),rfl⟩
   (fun x a' X=>∃Bx,W0.heap.size≤Bx∧X.heap[Bx]? =some (.cells #[x.1.2.1,x.1.2.2.1, .int .i64 x.1.2.2.2.1, .int .i64 x.1.2.2.2.2.1, .int .i64 x.1.2.2.2.2.2] 60 (0,0))∧(∃v,X.heap[w1.heap.size]? =some (.cells #[v] 58 (0,0))∧v.ownBlock≠some Bx)∧a'={tmps:=#[.slice la ln lc, .slice pa pn pc,undef,undef, .slice none 0 0, .int .i64 0, .int .i64 0, .pointer (some ⟨w1.heap.size,0,none⟩),undef, .pointer (some ⟨Bx,0,none⟩), .slice la ln lc, .slice pa pn pc, .int .i64 0, .int .i64 0, .bool false,undef, .slice pa pn pc, .func (.func 107) #[] #[.pointer (some ⟨w1.heap.size+1,0,none⟩)], .int .i64 x.1.1, .agg #[x.1.2.1,x.1.2.2.1, .int .i64 x.1.2.2.2.1, .int .i64 x.1.2.2.2.2.1, .int .i64 x.1.2.2.2.2.2],undef,undef,undef,undef,undef,undef,undef,undef,undef,undef,undef,undef,undef,undef],defers:=[]})
   (fun x a' _ X Y row hs hg hr=>by
    obtain⟨Bx,h1,h2,⟨v,h4,h5⟩,h3⟩:=hs
    exact⟨Bx,h1,Ck Bx (fun(_:Unit)=>#[x.1.2.1,x.1.2.2.1, .int .i64 x.1.2.2.2.1, .int .i64 x.1.2.2.2.2.1, .int .i64 x.1.2.2.2.2.2]) 60 () X Y row h2 hg (fun r e=>(hr r e).2),⟨v,Ck _ (fun(_:Unit)=>#[v]) _ () X Y row h4 hg (fun r e=>(hr r e).2),h5⟩,h3⟩)
   ?assign ?body ?done ?stop
  case assign=>
   rintro L pre x X K ⟨hbm,v,rs,hv,ho,hRw,hrs⟩ hK
   obtain⟨⟨xi,gv,ov,x0,x1,x2⟩,hx⟩:=x
   obtain⟨hj,k1,k2,k3⟩:=hx.real H2.out hw0
   simp only at k1 k2
   obtain⟨ga,gn,gc,rfl⟩:=k1.sl
   obtain⟨oa,on,oc,rfl⟩:=k2.sl
   have hXs:=hbm.2.1
   simp only[qfg]
   gi_wp2
   have hbx:Below X.heap.size X (X.alloc (.cells #[.slice ga gn gc, .slice oa on oc, .int .i64 x0, .int .i64 x1, .int .i64 x2] 60)):=(Below.refl _ X).alloc (qaA _) _
   have hv2:=(hbx.block _ (ah hv)).trans hv
   exact hK _ _ (EV hbx) ⟨aB (by omega),fun h0 g off e=>aB (by have:=Hga.out g off e h0;omega)⟩ ⟨hbm.trans (.of_below (by omega) hbx),v,rs,hv2,au ho hbx,fun r hr=>(hRw r hr).below hbx,hrs⟩ ⟨X.heap.size,by omega,ai rfl,⟨v,hv2,fun e=>by have:=(ho.lt _ e).2;omega⟩,rfl⟩
  case body=>
   rintro L pre x a' X hLl ⟨rL,hrL⟩ ⟨hbm,v,rs,hv,ho,hRw,hrs⟩ ⟨Bx,hBx,hX,⟨v',hv',hnb⟩,rfl⟩ hlt
   obtain⟨⟨xi,gv,ov,x0,x1,x2⟩,hx⟩:=x
   obtain⟨hj,k1,k2,k3⟩:=hx.real H2.out hw0
   simp only at k1 k2 k3 hX hj ⊢
   have Hsp:Hid (spF p (⟨(xi,gv,ov,x0,x1,x2),hx⟩:SpE W0 pa pn)=qeP p[xi]):=YJ (by unfold spF;simp[List.getD,hj])
   have hse:=Hs.out _ (qaB hj)
   have hwe:=BN (Hz'.out _ (qaB hj))
   rw[←k3]at hwe
   obtain⟨s,Hs'⟩:∃s,Hid (p[xi]=s):=⟨_,YJ rfl⟩
   rw[Hs'.out]at k1 k2 k3 hse Hsp
   obtain⟨sg,so,sx,sy,sz⟩:=s
   simp only[Prod.mk.injEq]at k3
   obtain⟨rfl,rfl,rfl⟩:=k3
   obtain⟨e1,e2,e3⟩:=hwe
   simp only at k1 k2 hse e1 e2 e3
   obtain⟨ga,gn,gc,rfl⟩:=k1.sl
   obtain⟨oa,on,oc,rfl⟩:=k2.sl
   have hXs:=hbm.2.1
   have hXW:Below W.heap.size W X:=hw0.trans (hbm.1.mono (by omega))
   obtain⟨j0,j1,j2,j3,j4,jf,jz⟩:=bM hX
   obtain rfl:v'=v:=by
    rw[hv]at hv'
    injection hv' with hv'
    injection hv' with hv' _ _
    simpa using hv'.symm
   obtain⟨va,vc,rfl⟩:=aT ho
   have co:=(ag hv 0).trans (rfl:_=some (Value.slice va rs.length vc))
   have zo:=ah hv
   have K1:=fun u:Ext X=>YJ (HCl _ sg u.val (k1.below (hXW.trans (u.below.mono hXW.size))) hse.1).out
   have K2:=fun u:Ext X=>YJ (HCl _ so u.val (k2.below (hXW.trans (u.below.mono hXW.size))) hse.2).out
   have K3:=fun W'=>YJ (HOp x0 x1 x2 W' e1 e2 e3).out
   have hrl:rs.length≤1000:=by
    have:=congrArg List.length hrs
    rw[qdo,qdo]at this
    omega
   have hmx:Tryz.prog.follows .mixedOrders=true:=by kernel_rfl
   have HO:=YJ ho
   have HRw:=YJ hRw
   clear HCl HOp Hbk HS0 H2 Hs Hz' k1 k2 hse e1 e2 e3 ho hRw hv'
   gi_wp2
   refine qet hmx (by kernel_rfl) ?_
   apply qeE [] [0,1,2,3,4,5,6,7,8,9,10,11] 12 [] 13 [] [sv _,sv _,sv _,⟨qeM 0 sg,by first|exact qdG _ _|exact qdE _ _ _ _ _|exact qdF _ _ _ _ _⟩,sv _,sv _,⟨qeM 0 so,by first|exact qdG _ _|exact qdE _ _ _ _ _|exact qdF _ _ _ _ _⟩,sv _,sv _,sv _,⟨qfu sg so (-x0) (-x1) (-x2),by first|exact qdG _ _|exact qdE _ _ _ _ _|exact qdF _ _ _ _ _⟩,⟨qfv sg so (-x0) (-x1) (-x2),by first|exact qdG _ _|exact qdE _ _ _ _ _|exact qdF _ _ _ _ _⟩] (fun _=>True) (by kernel_rfl) (by kernel_rfl) (fun _=>trivial)
   ·exact gR
   iterate 3 ((try go_frame);refine wkQ ?_)
   try go_frame
   refine wkU (fun u hR K hK=> ?_) (fun o3=> ?_)
   ·clear hR
    go_simp
    refine((K1 u).out).mono ?_
    rintro e w9 ⟨v9,rfl,hb9,ho9⟩
    exact hK _ _ hb9 (AY ho9 (by omega))
   iterate 2 ((try go_frame);refine wkQ ?_)
   try go_frame
   refine wkU (fun u hR K hK=> ?_) (fun o6=> ?_)
   ·clear hR
    go_simp
    refine((K2 u).out).mono ?_
    rintro e w9 ⟨v9,rfl,hb9,ho9⟩
    exact hK _ _ hb9 (AY ho9 (by omega))
   iterate 2 ((try go_frame);refine wkQ ?_)
   try go_frame
   refine wkR ?_
   apply ex3
   ·intro u hR K hK
    clear hR
    go_simp
    refine((K3 _).out).mono ?_
    rintro e w9 ⟨rfl,hb9⟩
    exact hK _ hb9
   rfl
   try go_frame
   refine wkU (fun u hR K hK=> ?_) (fun o10=> ?_)
   ·have h3:qeM 0 sg o3 u.val:=hr hR 3
    have h6:qeM 0 so o6 u.val:=hr hR 6
    clear hR
    obtain⟨a2,c2,rfl⟩:=aT h3
    obtain⟨a4,c4,rfl⟩:=aT h6
    go_simp
    exact hK _ _ (brf) ⟨_,_,rfl,h3,h6⟩
   try go_frame
   refine wkU (fun u hR K hK=> ?_) (fun o11=> ?_)
   ·have h10:(qfu sg so (-x0) (-x1) (-x2)) o10 u.val:=hr hR 10
    clear hR
    obtain⟨gv,ov,rfl,k2,k4⟩:=h10
    obtain⟨a2,c2,rfl⟩:=aT k2
    obtain⟨a4,c4,rfl⟩:=aT k4
    go_simp
    exact hK _ _ bel ⟨_,_,_,rfl,ai rfl,au k2 bel,au k4 bel⟩
   try go_frame
   refine aI (fun u hR=> ?_)
   have h11:qfv sg so (-x0) (-x1) (-x2) o11 u.val:=hR 11 (by simp)
   obtain⟨g9,gv,ov,rfl,hg9,k2,k4⟩:=h11
   have hub:=u.below
   have HO7:=YJ (au HO.out u.below)
   have HR7:Hid (∀r∈rs,OwnR u.val r):=YJ (fun r hr=>(HRw.out r hr).below u.below)
   have hv7:=(hub.block _ zo).trans hv
   have hbm7:=hbm.trans (.of_below (by omega) hub)
   have hK7:KeepsFrom W0.heap.size X u.val:=EV hub
   have hkp7:KpS (w1.heap.size+1) pa pn X u.val:=⟨hub.block _ (by omega),fun h0 g off e=>hub.block _ (by have:=Hga.out g off e h0;omega)⟩
   have K2':=YJ k2
   have K4':=YJ k4
   have HG9:=YJ hg9
   obtain⟨a2,c2',rfl⟩:=aT k2
   obtain⟨a4,c4',rfl⟩:=aT k4
   clear hR HO HRw k2 k4 hg9 j0 j1 j2 j3 j4 jf K1 K2 K3 co
   generalize u.val=wx at*
   clear u
   simp only[oas]
   refine wpList_append_own _ rfl _ _ 58 rfl W0.heap.size 60 i1 _ 5 72 qco Hi1.out.1 Hi1.out.2.1 Hi1.out.2.2.1 Hi1.out.2.2.2 rfl (by decide) _ rs.length _ rfl HO7.out ⟨g9,0,none⟩ 1 1 [.slice a2 sg.length c2', .slice a4 so.length c4', .int .i64 (-x0), .int .i64 (-x1), .int .i64 (-x2)] rfl rfl (fun j u hu=>by rw[jY,ag HG9.out];simpa using hu) (fun u hu=>by simp at hu;rcases hu with rfl|rfl|rfl|rfl|rfl<;>rfl) (by unfold maxLen;omega) (by omega) (by have:=hbm7.2.1;omega) ?_
   intro v' w4 hown4 hg4 _
   have hrow:=qcp HO7.out
   have hlt:=HO7.out.lt
   have hX4:=hbm7.2.1
   have hv4:=(hg4.block _ (ah hv7) (fun e=>aG HO7.out hv7 (by decide) e.symm)).trans hv7
   have hbm4:=Cc hbm7 hg4 (qaA _) (by omega) (fun r e=>(hlt r e).1)
   have hK4:KeepsFrom W0.heap.size X w4:=hK7.trans ((KeepsOthers.of_grownBy hg4 fun j o ej hj=>by
    obtain⟨cs,hc⟩:=hrow j ej
    rw[hc]at hj
    cases hj
    rfl).from _)
   have hkp4:KpS (w1.heap.size+1) pa pn X w4:=hkp7.trans ⟨hg4.block _ (by omega) (fun e=>by have:=(hlt _ e.symm).1;omega),fun h0 g off e=>hg4.block _ (by have:=Hga.out g off e h0;omega) (fun e2=>by have:=(hlt _ e2.symm).1;have:=Hga.out g off e h0;omega)⟩
   obtain⟨r9,Hr9⟩:∃r9:RSp,Hid (r9=(.slice a2 sg.length c2', .slice a4 so.length c4',sg,so, -x0, -x1, -x2)):=⟨_,YJ rfl⟩
   have HO4:Hid (w4.ownsRow W0.heap.size 60 5 v' (rs++[r9]).length ((rs++[r9]).flatMap qcc)):=YJ (by
    rw[qaE,qgj,Hr9.out]
    exact hown4)
   have HR4:Hid (∀r∈rs++[r9],OwnR w4 r):=YJ (fun r hr=>by
    rcases altl.1 hr with hr|hr
    ·exact(HR7.out r hr).kept hg4 hrow
    ·rw[ultg]at hr
     rw[hr,Hr9.out]
     exact OwnR.kept ⟨K2'.out,K4'.out⟩ hg4 hrow)
   have HP4:Hid ((rs++[r9]:List RSp).map (·.2.2)=(pre++[(⟨(xi, .slice ga gn gc, .slice oa on oc,x0,x1,x2),hx⟩:SpE W0 pa pn)]).map (spF p)):=YJ (by
    rw[qgh,qgh,hrs]
    show _++[_]=_++[spF p _]
    rw[Hsp.out,Hr9.out]
    rfl)
   clear hown4 hg4 hrow HO7 HR7 K2' K4' HG9 Hsp hK7 hkp7 hbm7 hlt
   obtain⟨va4,vc4,rfl⟩:=aT HO4.out
   clear Hr9
   generalize rs++[r9]=rs2 at*
   have co:=(ag hv4 0).trans (rfl:_=some (Value.slice va rs.length vc))
   have cf:=aC hv4 0
   have zo4:=ah hv4
   refine⟨trivial, ?_⟩
   simp only[oas]
   go_wp2
   refine NoPanic.normal ?_
   refine OnlyN.normal ?_
   gi_wp2
   refine⟨pm hK4 _ _,⟨?_, ?_⟩,qfl hbm4, .slice va4 rs2.length vc4,rs2, ?_, ?_,fun r hr=>qfy (HR4.out r hr) hv4 (by decide),HP4.out⟩
   ·exact(qaH _ _ _ _ (by show w1.heap.size+1≠w1.heap.size;omega)).trans hkp4.1
   ·exact fun h0 g off e=>(qaH _ _ _ _ (by show g≠w1.heap.size;have:=Hga.out g off e h0;omega)).trans (hkp4.2 h0 g off e)
   ·have:=Tu hv4 0 (.slice va4 rs2.length vc4)
    simpa using this
   ·exact aF HO4.out ⟨w1.heap.size,0,none⟩ _ (fun e=>absurd (HO4.out.lt w1.heap.size e.symm).1 (by omega))
  case done=>
   rintro Dd ys X hD hys ⟨hbm,v,rs,hv,ho,hRw,hrs⟩ hK
   obtain⟨va,vc,rfl⟩:=aT ho
   have co:=(ag hv 0).trans (rfl:_=some (Value.slice va rs.length vc))
   have zo:=ah hv
   have hbW:Below W.heap.size W X:=hw0.trans (hbm.1.mono (by omega))
   have hm:ys.map (spF p)=qeF p:=by
    have:=(Hbk _).out hys
    rw[List.map_map]at this
    exact this
   gi_wp2
   refine⟨by simp, .inl ⟨_,_,rfl,run_takeDeferred hK, ?_⟩⟩
   have hg:=grownBy_putObj' X Dd (.deferred none)
   have hc:∀r,some Dd=some r→∃o:Obj,X.heap[r]? =some o∧o.isCells=false:=fun r e=>by cases e;exact⟨_,hK,rfl⟩
   have hZ:=qcH (CC ho hg hc) (fun r hr=>qeK (hRw r hr) hg hc)
   rw[hrs,hm]at hZ
   have hbZ:Below W.heap.size W (X.putObj Dd (.deferred none)):=hbW.grown hg hbW.size (fun k e=>by cases e;omega)
   exact⟨.tuple #[.slice va rs.length vc, .int .i64 0],by simp[results,Tryz.results31,go_sem],hbZ, .inr ⟨rfl,_,_,_,rfl,hZ⟩⟩
  case stop=>
   rintro Dd c' pre X hD _ hx hK
   exact hx.elim
 ·have hA':(A !=0)=true:=by simpa using hA
  clear Hz HBk HOp HCl Hbk
  gi_wp2
  exact⟨.tuple #[.slice none 0 0, .int .i64 A],by simp[results,Tryz.results31,go_sem],hb1, .inl ⟨hA,rfl⟩⟩
end
section
open Go.RowKit Go.Shelf Go.Lib
set_option maxRecDepth 100000
attribute [local go_sem] Ext.cell Ext.frozen
def qfI (w:World) (r:RSp):Prop:=Ints w r.1 r.2.2.1∧Ints w r.2.1 r.2.2.2.1
theorem qfm {w:World} {B:Nat} {v:Value} {rs:List RSp} (h:w.ownsRow B 60 5 v rs.length (rs.flatMap qcc)) (hr:∀r∈rs,qfI w r):Kj w v (rs.map (·.2.2)):=by
 rcases h.2 with⟨rfl,h0⟩|⟨g,cap,cur,rfl,hb,hh,hc,hm,hcs,ht⟩
 ·exact⟨none,0,0,rfl,by simpa using h0,qaA _,fun h=>absurd h (by omega)⟩
 ·refine⟨some ⟨g,0,none⟩,rs.length,cap,rfl,by simp,hc,fun _=>⟨g,0,rfl,fun i hi=> ?_⟩⟩
  have hi':i<rs.length:=by simpa using hi
  have key:∀j,j<5→w.cell? ⟨g,i*5+j,none⟩=(qcc rs[i])[j]? :=fun j hj=>by
   rw[ag hh, ←eQ qcc 5 qcV rs i hi' j hj, ←ht,qdx (by omega),Array.getElem?_toList]
  have ho:=hr _ (qaB hi')
  rw[qdB]
  simp only[qfW]
  exact⟨rs[i].1,rs[i].2.1,key 0 (by omega),key 1 (by omega),key 2 (by omega),key 3 (by omega),key 4 (by omega),ho.1,ho.2⟩
def qfP (gv ov:Value) (x y z:Int):Value→World→Prop:=fun v w=>∃b,v= .slice (some ⟨b,0,none⟩) 1 1∧w.heap[b]? =some (.cells #[gv,ov, .int .i64 x, .int .i64 y, .int .i64 z] 60 (0,0))
theorem qfn (gv ov:Value) (x y z:Int):dR (qfP gv ov x y z):=fun _ _ _ hb ⟨b,h1,h4⟩=>⟨b,h1,(hb.block _ (ah h4)).trans h4⟩
theorem qdL (l:List (List (List Q4))) (lv:Value) (p:List Spl) (pv:Value) (W:World) (hl:l.length≤maxLen) (hL:∀s∈l,s.length≤maxLen∧∀c∈s,c.length≤maxLen) (h:SolsV W lv l) (hpm:p.length≤maxLen) (hpL:∀s∈p,s.1.length≤maxLen∧s.2.1.length≤maxLen) (hp:SplsN W pv p) (ht:Lib.TabIs Tryz.prog W "internal/strconv.uint64pow10" .u64 Lib.pow10Tab∧TabAt 1 Lib.deBruijn64tab W):
  Calls Tryz.prog 7 #[lv,pv] W (Ret W (.bool true)):=by
 obtain⟨i1,Hi1⟩:=qfT qcn
 have HA:=YJ (Gv W ht.1 ht.2)
 have HF:=fun W' (hb:Below W.heap.size W W')=>YJ (QD l lv W' hl (fun s hs=>(hL s hs).1) (SolsV.below h hb))
 have HC:=fun(hf:Ow l=true) W' (hb:Below W.heap.size W W')=>YJ (Py l lv W' (qaD (Ol hf).1 (by decide)) (fun s hs=>⟨qaD ((Ol hf).2 s hs).1 (by decide),fun c hc=>qaD (((Ol hf).2 s hs).2 c hc) (by decide)⟩) (SolsV.below h hb))
 have splsN_below:=fun W' (hb:Below W.heap.size W W')=>YJ (show SplsN W' pv p from by
  obtain⟨a,n,c,rfl,h1,h2,h3⟩:=hp
  refine⟨a,n,c,rfl,h1,h2,fun h0=> ?_⟩
  obtain⟨g,off,rfl,hi⟩:=h3 h0
  refine⟨g,off,rfl,fun i h=> ?_⟩
  obtain⟨q,r,e0,e1,e2,e3,e4,k1,k2⟩:=hi i h
  exact⟨q,r,ab hb e0,ab hb e1,ab hb e2,ab hb e3,ab hb e4,⟨k1.1.below hb,k1.2⟩,⟨k2.1.below hb,k2.2⟩⟩)
 have HCp:=fun(hn:p.length≤20) (hs:∀s∈p,s.1.length≤20∧s.2.1.length≤20) W' (hb:Below W.heap.size W W')=>YJ (qeS p pv W' (by omega) (fun s h=>by have:=hs s h;omega) (splsN_below W' hb).out)
 have HMn:=fun(hf:Ow l=true) (hn:p.length≤20) (hs:∀s∈p,s.1.length≤20∧s.2.1.length≤20) v v2 W' (hb:Below W.heap.size W W') (hv:SolsV W' v l) (hv2:Kj W' v2 p)=>YJ (qfb l p v v2 W' (fun s hs c hc=>qaD (((Ol hf).2 s hs).2 c hc) (by decide)) (by omega) (fun s h=>by have:=hs s h;omega) hv hv2 (nz ht.2 hb))
 have HCk:=fun(hf:Ow l=true) (hn:p.length≤20) (hs:∀s∈p,s.1.length≤20∧s.2.1.length≤20) v v2 W' (hb:Below W.heap.size W W') (hv:SolsV W' v l) (hv2:Kj W' v2 p)=>YJ (qdN l p v v2 W' (fun s hs c hc=>qaD (((Ol hf).2 s hs).2 c hc) (by decide)) (by omega) (fun s h=>by have:=hs s h;omega) hv hv2 (nz ht.2 hb))
 have HR:=fun(hf:Ow l=true) W' (hb:Below W.heap.size W W')=>YJ (PP l lv W' (fun s hs c hc=>qaD (((Ol hf).2 s hs).2 c hc) (by decide)) (SolsV.below h hb))
 rw[←QG]at HR
 have HGs:=fun(hf:Ow l=true) (h0:eB l=0) W' (hb:Below W.heap.size W W')=>YJ (Vw l lv W' (qaD (Ol hf).1 (by decide)) (We hf h0) (SolsV.below h hb))
 have HRp:=fun(hf:Ow l=true) (hn:p.length≤20) (hs:∀s∈p,s.1.length≤20∧s.2.1.length≤20) gv W' (hb:Below W.heap.size W W') (k:GsV W' gv (Uh l))=>YJ (qbT l p gv pv W' (qaD (Ol hf).1 (by decide)) (by omega) (fun s h=>by have:=hs s h;omega) k (splsN_below W' hb).out.v)
 have HSm:=fun(hn:p.length≤20) (hs:∀s∈p,s.1.length≤20∧s.2.1.length≤20) v v2 W' (h1:Kj W' v (qeF p)) (h2:Kj W' v2 (qeF p))=>YJ (Wd (qeF p) v v2 W' (by rw[qeF,qfh];omega) (fun s h=>by
  obtain⟨t,ht,rfl⟩:=qfG h
  have:=hs t ht
  unfold qeP
  simp only
  omega) h1 h2)
 have HOp:=fun x y z W' h1 h2 h3=>YJ (Ix x y z W' h1 h2 h3)
 have He1:Hid (eB l≠0→cpE l p=eB l):=YJ (fun h=>by unfold cpE;rw[if_pos h])
 have He2:Hid (eB l=0→cpE l p=rcp l p):=YJ (fun h=>qfK h p)
 have Hz:Hid (cpE l p=0→∀s∈p,mK s.2.2=0):=YJ (fun h=>(qeR h).2)
 have Hlv:Hid (∃a n c,lv= .slice a n c∧l.length=n):=YJ (by obtain⟨a,n,c,rfl,hn,_⟩:=h;exact⟨a,n,c,rfl,hn⟩)
 obtain⟨la,ln,lc,rfl,hln⟩:=Hlv.out
 have hp':=hp
 obtain⟨pa,pn,pc,rfl,hpn, -,hpx⟩:=hp'
 have HX:=YJ hpx
 have Hpn:=YJ hpn
 have Hmn:Hid (bkS p pn=qeF p):=YJ (by rw[←hpn];rfl)
 have Hb0:Hid (bkS p 0=[]):=YJ rfl
 have Hbs:=fun k=>YJ (qft p k)
 rw[hpn]at HCp HMn HCk HRp HSm Hbs hpm
 rw[hln]at HRp
 clear h hl hL ht Hlv hp hpn hpx hpL splsN_below hln
 generalize cpE l p=ce at*
 generalize rcp l p=re at*
 generalize Ow l=fl at*
 generalize eB l=ae at*
 go_enter Tryz.func7,Tryz.ntmps7
 go_wp2_with fail
 refine(HA.out).mono ?_
 rintro e w1 ⟨rfl,hb1⟩
 clear HA
 go_wp2_with fail
 refine((HF _ hb1).out).mono ?_
 rintro e w2 ⟨rfl,hb2⟩
 have hw2:=fB hb1 hb2
 clear HF
 cases fl with
 |false=>
  clear HC HCp HMn HCk HR HGs HRp HSm HOp He1 He2 Hz HX Hmn Hbs
  go_wp2
  go_ret
  exact⟨ay (by simp),hw2⟩
 |true=>
  by_cases hx20:pn≤20
  ·have g1:¬(20:Int)<(pn:Int):=by omega
   have HC':=fun W' hb=>YJ (HC (by trivial) W' hb).out
   have HCp':=fun hs W' hb=>YJ (HCp hx20 hs W' hb).out
   have HMn':=fun hs v v2 W' hb k1 k2=>YJ (HMn (by trivial) hx20 hs v v2 W' hb k1 k2).out
   have HCk':=fun hs v v2 W' hb k1 k2=>YJ (HCk (by trivial) hx20 hs v v2 W' hb k1 k2).out
   have HR':=fun W' hb=>YJ (HR (by trivial) W' hb).out
   have HGs':=fun h0 W' hb=>YJ (HGs (by trivial) h0 W' hb).out
   have HRp':=fun hs gv W' hb k=>YJ (HRp (by trivial) hx20 hs gv W' hb k).out
   have HSm':=fun hs v v2 W' k1 k2=>YJ (HSm hx20 hs v v2 W' k1 k2).out
   clear HC HCp HMn HCk HR HGs HRp HSm
   go_wp2
   go_loopw [5] (fun x wr=>∃i:Nat,i≤pn∧x= .int .i64 i∧wr=w2∧Hid (∀j (h:j<p.length),j<i→p[j].1.length≤20∧p[j].2.1.length≤20)) (fun x _=>pn-(intOf x).toNat)
   case atStart=>exact⟨0,by omega,rfl,rfl,YJ (fun j _ h=>by omega)⟩
   case round=>
    obtain⟨i,hi,rfl,rfl,HS⟩:=hrel
    by_cases hlt:i<pn
    ·have q1:(i:Int)<(pn:Int):=by omega
     have q2:(0:Int)≤(i:Int):=by omega
     have hil:i<p.length:=by rw[Hpn.out];exact hlt
     obtain⟨g,off,rfl,hx⟩:=HX.out (by omega)
     obtain⟨gv,ov,e0,e1, -, -, -,k1,k2⟩:=hx i hil
     obtain⟨ga,gn,gc,rfl⟩:=k1.1.sl
     obtain⟨oa,on,oc,rfl⟩:=k2.1.sl
     have hg:=qbA k1.1
     have ho:=qbA k2.1
     have c0:=ab hw2 e0
     have c1:=ab hw2 e1
     have z0:=qaC wr _ c0
     simp only at z0
     have HSs:Hid (gn≤20→on≤20→∀j (h:j<p.length),j<i+1→p[j].1.length≤20∧p[j].2.1.length≤20):=YJ (fun h h' j hj hji=>by
      by_cases e:j=i
      ·subst e;omega
      ·exact HS.out j hj (by omega))
     clear HX hx e0 e1 k1 k2 hg ho HS HC' HCp' HMn' HCk' HR' HGs' HRp' HSm' HOp He1 He2 Hz Hmn Hbs
     by_cases hgn:gn≤20
     ·have r1:¬(20:Int)<(gn:Int):=by omega
      by_cases hon:on≤20
      ·have r2:¬(20:Int)<(on:Int):=by omega
       have HS2:=YJ (HSs.out hgn hon)
       clear HSs
       go_wp2
       go_roundw
       case rel=>exact⟨i+1,by omega,by go_num,by trivial,HS2⟩
       simp[intOf];try omega
      ·have r2:(20:Int)<(on:Int):=by omega
       clear HSs
       go_wp2
       go_ret
       exact⟨ay (by simp),hw2⟩
     ·have r1:(20:Int)<(gn:Int):=by omega
      clear HSs
      go_wp2
      go_ret
      exact⟨ay (by simp),hw2⟩
    ·obtain rfl:i=pn:=by omega
     have Hsa:Hid (∀s∈p,s.1.length≤20∧s.2.1.length≤20):=YJ (fun s hs=>by
      obtain⟨j,hj,rfl⟩:=qaJ hs
      exact HS.out j hj (by have:=Hpn.out;omega))
     have HCp2:=fun W' hb=>YJ (HCp' Hsa.out W' hb).out
     have HMn2:=fun v v2 W' hb k1 k2=>YJ (HMn' Hsa.out v v2 W' hb k1 k2).out
     have HCk2:=fun v v2 W' hb k1 k2=>YJ (HCk' Hsa.out v v2 W' hb k1 k2).out
     have HRp2:=fun gv W' hb k=>YJ (HRp' Hsa.out gv W' hb k).out
     have HSm2:=fun v v2 W' k1 k2=>YJ (HSm' Hsa.out v v2 W' k1 k2).out
     clear HCp' HMn' HCk' HRp' HSm' HS
     go_wp2_with fail
     refine((HR' _ hw2).out).mono ?_
     rintro e w5 ⟨rfl,hb5⟩
     have hw5:=fB hw2 hb5
     clear HR'
     go_upto_if 46 with fail
     go_cut [6] (fun s wx=>s= .int .i64 ce∧Below w5.heap.size w5 wx)
     case first=>
      by_cases hae:ae=0
      ·subst hae
       obtain rfl:=He2.out (by trivial)
       have HG5:=YJ (HGs' (by trivial) w5 hw5).out
       clear He1 He2 HGs' HC' HCp2 HMn2 HCk2 HSm2 HOp Hz HX Hmn Hbs
       go_wp2_with fail
       refine(HG5.out).mono ?_
       rintro e w6 ⟨gv,rfl,hb6,hg6⟩
       have hw6:=fB hw5 hb6
       have HRx:=YJ (HRp2 gv w6 hw6 hg6.gs).out
       obtain⟨vs,ho6,_⟩:=hg6
       obtain⟨ga,gc,rfl⟩:=aT ho6
       clear HG5 HRp2 ho6
       go_wp2_with fail
       refine(HRx.out).mono ?_
       rintro e w7 ⟨rfl,hb7⟩
       have hw67:=fB hb6 hb7
       clear HRx
       go_wp2_with fail
       go_meet
       exact⟨rfl,hw67⟩
      ·have hae':((ae:Int)==0)=false:=by simpa using hae
       have hce:=He1.out hae
       clear He1 He2 HGs' HC' HCp2 HMn2 HCk2 HRp2 HSm2 HOp Hz HX Hmn Hbs
       go_wp2_with fail
       go_meet
       exact⟨by rw[hce],brf⟩
     case rest=>
      rename World=>w6
      obtain⟨rfl,hb6⟩:=hcut
      have hw6:=fB hw5 hb6
      clear He1 He2 HGs' HRp2
      go_wp2_with fail
      refine((HC' _ hw6).out).mono ?_
      rintro e w7 ⟨v7,rfl,hb7,hs7⟩
      have hw7:=fB hw6 hb7
      obtain⟨sa7,sn7,sc7,rfl⟩:∃a n c,v7= .slice a n c:=by obtain⟨a,n,c,h,_⟩:=hs7;exact⟨a,n,c,h⟩
      go_wp2_with fail
      refine((HCp2 _ hw7).out).mono ?_
      rintro e w8 ⟨v8,rfl,hb8,⟨pa8,pn8,pc8,rfl⟩,hs8⟩
      have hw8:=fB hw7 hb8
      have HM8:=YJ (HMn2 _ _ w8 hw8 (SolsV.below hs7 hb8) hs8).out
      clear hs7 hs8 HMn2
      go_wp2_with fail
      refine(HM8.out).mono ?_
      rintro e w9 ⟨hb9,hpost⟩
      have hw9:=fB hw8 hb9
      clear HM8
      obtain⟨mv,rfl,hmv⟩:∃mv,e= .returned (.tuple #[mv, .int .i64 ce])∧((ce≠0∧mv= .slice none 0 0)∨(ce=0∧∃a n c,mv= .slice a n c∧Kj w9 mv (qeF p))):=by
       rcases hpost with⟨hce,rfl⟩|⟨hce,ma,mn,mc,rfl,hms⟩
       ·exact⟨_,rfl, .inl ⟨hce,rfl⟩⟩
       ·exact⟨_,by rw[hce], .inr ⟨hce,_,_,_,rfl,hms⟩⟩
      clear hpost
      go_wp2_with fail
      refine((HC' _ hw9).out).mono ?_
      rintro e w10 ⟨v10,rfl,hb10,hs10⟩
      have hw10:=fB hw9 hb10
      obtain⟨sa,sn,sc,rfl⟩:∃a n c,v10= .slice a n c:=by obtain⟨a,n,c,h,_⟩:=hs10;exact⟨a,n,c,h⟩
      go_wp2_with fail
      refine((HCp2 _ hw10).out).mono ?_
      rintro e w11 ⟨v11,rfl,hb11,⟨pa11,pn11,pc11,rfl⟩,hs11⟩
      have hw11:=fB hw10 hb11
      have HK:=YJ (HCk2 _ _ w11 hw11 (SolsV.below hs10 hb11) hs11).out
      clear hs10 hs11 HCk2 HC' HCp2
      go_wp2_with fail
      refine(HK.out).mono ?_
      rintro e w12 ⟨rfl,hb12⟩
      have hw12:=fB hw11 hb12
      rcases hmv with⟨hce,rfl⟩|⟨hce,ma,mn,mc,rfl,hms⟩
      ·have hce':(ce !=0)=true:=by simpa using hce
       have hcc:(ce !=ce)=false:=by simp
       clear HK HSm2 HOp Hz HX Hmn Hbs
       go_wp2
       go_ret
       exact⟨ay (by simp),hw12⟩
      ·have HMs:Hid (Kj w11 (.slice ma mn mc) (qeF p)):=YJ (qbN (qbN hms hb10) hb11)
       have HMs2:=YJ (qbN HMs.out hb12)
       have Hz2:=YJ (Hz.out hce)
       subst hce
       clear HK HMs Hz
       go_wp2
       go_loopw [9,10] (fun s x wr=>∃(k:Nat) (y:Int),k≤i∧x= .int .i64 y∧Hid (y=(i:Int)-1-k)∧Below w12.heap.size w12 wr∧∃rs:List RSp,Hid (wr.ownsRow w12.heap.size 60 5 s rs.length (rs.flatMap qcc))∧Hid (∀r∈rs,qfI w12 r)∧Hid (rs.map (·.2.2)=bkS p k)) (fun _ x _=>(intOf x+1).toNat)
       case atStart=>exact⟨0,_,by omega,rfl,YJ (by omega),brf,[],YJ (qds _ _ _ _),YJ (fun r h=>by cases h),YJ (by rw[Hb0.out];rfl)⟩
       case round=>
        obtain⟨k,y,hk,rfl,Hy,hb,rs,HO,HR,HP⟩:=hrel
        obtain⟨oa,oc,rfl⟩:=aT HO.out
        have hwr:=fB hw12 hb
        by_cases hlt:k<i
        ·obtain⟨j,Hj⟩:∃j:Nat,Hid (i-1-k=j):=⟨_,YJ rfl⟩
         obtain rfl:y=(j:Int):=by have:=Hy.out;have:=Hj.out;omega
         have hj:j<i:=by have:=Hj.out;omega
         have q1:(0:Int)≤(j:Int):=by omega
         have q2:(j:Int)<(i:Int):=by omega
         have hjl:j<p.length:=by rw[Hpn.out];exact hj
         obtain⟨g,off,rfl,hi⟩:=HX.out (by omega)
         obtain⟨gv,ov,e0,e1,e2,e3,e4,k1,k2⟩:=hi j hjl
         have hwe:=BN (Hz2.out _ (qaB hjl))
         have HBk:Hid (bkS p (k+1)=bkS p k++[qeP p[j]]):=YJ (by rw[(Hbs k).out,Hj.out];simp[List.getD,hjl])
         obtain⟨s,Hs'⟩:∃s,Hid (p[j]=s):=⟨_,YJ rfl⟩
         rw[Hs'.out]at e2 e3 e4 k1 k2 hwe HBk
         obtain⟨sg,so,sx,sy,sz⟩:=s
         obtain⟨w0,w1',w2'⟩:=hwe
         simp only at e2 e3 e4 w0 w1' w2' k1 k2
         have c0:=ab hwr e0
         have c1:=ab hwr e1
         have c2:=ab hwr e2
         have c3:=ab hwr e3
         have c4:=ab hwr e4
         have z0:=qaC wr _ c0
         simp only at z0
         have HIr:Hid (qfI w12 (gv,ov,sg,so, -sx, -sy, -sz)):=YJ ⟨k1.1.below hw12,k2.1.below hw12⟩
         obtain⟨ga,gn,gc,rfl⟩:=k1.1.sl
         obtain⟨oa2,on2,oc2,rfl⟩:=k2.1.sl
         have HOx:=fun W'=>YJ (HOp sx sy sz W' w0 w1' w2').out
         have hrl:rs.length≤1000:=by
          have:=congrArg List.length HP.out
          rw[qdo,qfh]at this
          omega
         clear HX hi e0 e1 e2 e3 e4 k1 k2 HOp HSm2 Hbs Hz2 Hs' w0 w1' w2' Hmn
         go_wp2
         apply aj [] [0,1,2,3,4,5,6,7,8,9,10,11,12,13,14,15,16,17,18] 19 [20] [sv _,sv _,sv _,sv _,sv _,sv _,sv _,sv _,sv _,sv _,sv _,sv _,sv _,sv _,sv _,sv _,sv _,sv _,⟨qfP (.slice ga gn gc) (.slice oa2 on2 oc2) (-sx) (-sy) (-sz),by first|exact qfn _ _ _ _ _⟩] (by kernel_rfl) (by kernel_rfl)
         iterate 16 ((try go_frame);refine wkQ ?_)
         try go_frame
         refine wkR ?_
         apply ex3
         ·intro u hR K hK
          clear hR
          go_simp
          refine((HOx _).out).mono ?_
          rintro e w9 ⟨rfl,hb9⟩
          exact hK _ hb9
         rfl
         ((try go_frame);refine wkQ ?_)
         try go_frame
         refine wkU (fun u hR K hK=> ?_) (fun o18=> ?_)
         ·clear hR
          go_simp
          exact hK _ _ bel ⟨_,rfl,ai rfl⟩
         try go_frame
         refine aI (fun u hR=> ?_)
         have k7:qfP (.slice ga gn gc) (.slice oa2 on2 oc2) (-sx) (-sy) (-sz) o18 u.val:=hR 18 (by simp)
         obtain⟨g9,rfl,hg9⟩:=k7
         have hbu:=fB hb u.below
         have HO7:=YJ (au HO.out u.below)
         have HG9:=YJ hg9
         clear hR HO hg9 c0 c1 c2 c3 c4 z0 HOx
         generalize u.val=wx at*
         clear u
         simp only[oas]
         refine wpList_append_own _ rfl _ _ 58 rfl w12.heap.size 60 i1 _ 5 72 qco Hi1.out.1 Hi1.out.2.1 Hi1.out.2.2.1 Hi1.out.2.2.2 rfl (by decide) _ rs.length _ rfl HO7.out ⟨g9,0,none⟩ 1 1 [.slice ga gn gc, .slice oa2 on2 oc2, .int .i64 (-sx), .int .i64 (-sy), .int .i64 (-sz)] rfl rfl (fun j u hu=>by rw[jY,ag HG9.out];simpa using hu) (fun u hu=>by simp at hu;rcases hu with rfl|rfl|rfl|rfl|rfl<;>rfl) (by unfold maxLen;omega) (by omega) hbu.size ?_
         intro v' w4 hown4 hg4 _
         have hb4:Below w12.heap.size w12 w4:=hbu.grown hg4 hbu.size (fun z hz=>(HO7.out.lt z hz).1)
         obtain⟨r9,Hr9⟩:∃r9:RSp,Hid (r9=(.slice ga gn gc, .slice oa2 on2 oc2,sg,so, -sx, -sy, -sz)):=⟨_,YJ rfl⟩
         have HO4:Hid (w4.ownsRow w12.heap.size 60 5 v' (rs++[r9]).length ((rs++[r9]).flatMap qcc)):=YJ (by
          rw[qaE,qgj,Hr9.out]
          exact hown4)
         have HR4:Hid (∀r∈rs++[r9],qfI w12 r):=YJ (fun r hr=>by
          rcases altl.1 hr with hr|hr
          ·exact HR.out r hr
          ·rw[ultg]at hr
           rw[hr,Hr9.out]
           exact HIr.out)
         have HP4:Hid ((rs++[r9]:List RSp).map (·.2.2)=bkS p (k+1)):=YJ (by
          rw[qgh,HP.out,HBk.out,Hr9.out]
          rfl)
         clear hown4 hg4 HO7 HG9 HP HBk HIr HR
         obtain⟨va,vc,rfl⟩:=aT HO4.out
         clear Hr9
         generalize rs++[r9]=rs2 at*
         go_wp2
         refine NoPanic.normal ?_
         go_wp2
         go_roundw
         case rel=>exact⟨k+1,_,by omega,rfl,YJ (by have:=Hy.out;omega),hb4,rs2,HO4,HR4,HP4⟩
         simp[intOf];try omega
        ·obtain rfl:k=i:=by omega
         obtain rfl:y= -1:=by have:=Hy.out;omega
         have HZ:Hid (Kj wr (.slice oa rs.length oc) (qeF p)):=YJ (by
          have:=qfm HO.out (fun r hr=>⟨(HR.out r hr).1.below hb,(HR.out r hr).2.below hb⟩)
          rwa [HP.out,Hmn.out]at this)
         have HS9:=YJ (HSm2 _ _ wr (qbN HMs2.out hb) HZ.out).out
         clear HX HO HR HP HSm2 HOp Hbs Hz2 HMs2 HZ Hmn
         go_wp2_with fail
         refine(HS9.out).mono ?_
         rintro e w13 ⟨rfl,hb13⟩
         have hw13:=fB hwr hb13
         clear HS9
         go_wp2
         go_ret
         exact⟨ay (by simp),hw13⟩
  ·have g1:(20:Int)<(pn:Int):=by omega
   clear HC HCp HMn HCk HR HGs HRp HSm HOp He1 He2 Hz HX Hmn Hbs
   go_wp2
   go_ret
   exact⟨ay (by simp),hw2⟩
end
end Go.Proofs.YtnpmkepfpekhfaaGreatDoor
