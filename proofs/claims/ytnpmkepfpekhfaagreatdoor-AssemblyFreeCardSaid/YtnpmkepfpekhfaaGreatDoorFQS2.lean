/- texts: FRA FRB GI FRC FRD. -/
import Derived.ArgAppend
import Derived.BigQuiet
import Derived.ChangeKeysEq
import Derived.Deep.AppendLies
import Derived.Deep.DeepAppendRoom
import Derived.Deep.DeepAppendWide
import Derived.Deep.DeepCutAuto
import Derived.Deep.QuietTactic
import Derived.Deep.RegionHeld
import Derived.Deep.RegionHeld3
import Derived.Deep.RegionHeldLaw
import Derived.DeepKeys4
import Derived.Ground.Names2Prog
import Derived.Ground.SlgnProg
import Derived.Laws.AppendOwnNone
import Derived.Laws.StructEq
import Derived.Lib.AppendIntMem
import Derived.Lib.AppendZerosOnto
import Derived.Lib.Hide
import Derived.Lib.ItoaLen
import Derived.Lib.SliceRun
import Derived.Lib.SlicesCompact
import Derived.LoopIn
import Derived.LoopNIn
import Derived.Maps.AppendAt
import Derived.Maps.OwnIn
import Derived.Maps.OwnSet
import Derived.OwnWalkIn
import Derived.RangeFuncBound
import Derived.RangeFuncBox
import Derived.RangeFuncCalls
import Derived.RangeFuncFrom
import Derived.RangeFuncLeaves
import Derived.RangeFuncNested
import Derived.RangeFuncWrites
import Derived.Shelf.Abstract
import Derived.Shelf.Lays8
import Derived.Shelf.LaysM
import Derived.Shelf.RegionOpen
import Derived.Shelf.Slices.Clone
import Derived.Shelf.SlicesE.Clone
import Derived.Shelf.Small.Bits
import Derived.Shelf.Spec.TrailingZeros
import Derived.Shelf.Strconv.Itoa0
import Derived.Shelf.Strconv.Itoa1
import Derived.Shelf.Strconv.Itoa2
import Derived.Shelf.Strconv.Itoa3
import Derived.Shelf.Strings.Builder1
import Derived.Shelf.Strings.Builder2
import Derived.Shelf.Strings.OnBuilder
import Derived.Sort.Grow
import Derived.StillTail
import Derived.TacticsInMore
import Derived.WalkKit
import Derived.WalkLawsBesides
import Derived.WalkSpells
import Derived.WideKeyEntry
import Derived.Test.YtnpmkepfpekhfaaGreatDoorProg
import Derived.Test.YtnpmkepfpekhfaaGreatDoorRows
import Derived.Test.YtnpmkepfpekhfaaGreatDoorSort
import Derived.Test.YtnpmkepfpekhfaaGreatDoorGGS1
import Derived.Test.YtnpmkepfpekhfaaGreatDoorGGS4
import Derived.Test.YtnpmkepfpekhfaaGreatDoorGGS7
import Derived.Test.YtnpmkepfpekhfaaGreatDoorGGS8
import Derived.Test.YtnpmkepfpekhfaaGreatDoorGGS9
import Derived.Test.YtnpmkepfpekhfaaGreatDoorGGS10
import Derived.Test.YtnpmkepfpekhfaaGreatDoorGGS11
import Derived.Test.YtnpmkepfpekhfaaGreatDoorGGS13
import Derived.Test.YtnpmkepfpekhfaaGreatDoorGGS15
import Derived.Test.YtnpmkepfpekhfaaGreatDoorGGS16
import Derived.Test.YtnpmkepfpekhfaaGreatDoorGGS17
import Derived.Test.YtnpmkepfpekhfaaGreatDoorGGS18
import Derived.Test.YtnpmkepfpekhfaaGreatDoorGGS19
import Derived.Test.YtnpmkepfpekhfaaGreatDoorGGS20
import Derived.Test.YtnpmkepfpekhfaaGreatDoorGGS21
import Derived.Test.YtnpmkepfpekhfaaGreatDoorGGS22
import Derived.Test.YtnpmkepfpekhfaaGreatDoorGGS24
import Derived.Test.YtnpmkepfpekhfaaGreatDoorGGS25
import Derived.Test.YtnpmkepfpekhfaaGreatDoorGGS26
import Derived.Test.YtnpmkepfpekhfaaGreatDoorGGS27
import Derived.Test.YtnpmkepfpekhfaaGreatDoorGGS28
import Derived.Test.YtnpmkepfpekhfaaGreatDoorGGS29
import Derived.Test.YtnpmkepfpekhfaaGreatDoorGGS30
import Derived.Test.YtnpmkepfpekhfaaGreatDoorGGS32
import Derived.Test.YtnpmkepfpekhfaaGreatDoorGGS33
import Derived.Test.YtnpmkepfpekhfaaGreatDoorGGS34
import Derived.Test.YtnpmkepfpekhfaaGreatDoorGGS35
import Derived.Test.YtnpmkepfpekhfaaGreatDoorGGS37
import Derived.Test.YtnpmkepfpekhfaaGreatDoorGGS39
import Derived.Test.YtnpmkepfpekhfaaGreatDoorGGS40
import Derived.Test.YtnpmkepfpekhfaaGreatDoorGGS41
import Derived.Test.YtnpmkepfpekhfaaGreatDoorFQS1
namespace Go.Proofs.YtnpmkepfpekhfaaGreatDoor
set_option maxHeartbeats 8000000
set_option linter.all false
section
open Go.RowKit Go.Shelf Go.Lib
set_option maxRecDepth 100000
attribute [local go_sem] Ext.cell Ext.frozen
def rfreeQ (l:List (List (List Q4))) (p:Nat) (w:Q3):Bool:=(rgph l w p).length==0
def rfreeL (l:List (List (List Q4))) (p:Nat):List Q3:=ways26.filter (rfreeQ l p)
theorem grf_at {w:World} {gi:Value} {l:List (List (List Q4))} {v:Q3} {p:Nat} (hp:p<l.length) (h:GrfV w gi (rgphs l v)):∃ga goff gn gc ua un uc,gi= .slice (some ⟨ga,goff,none⟩) gn gc∧p<gn∧w.cell? ⟨ga,goff+p,none⟩=some (.slice ua un uc)∧(rgph l v p).length=un:=by
 obtain⟨a,n,c,rfl,hn, -,hx⟩:=h
 have hn':n=l.length:=by rw[←hn,rgphs_len]
 obtain⟨b,off,rfl,hi⟩:=hx (by omega)
 obtain⟨u,h1,h2⟩:=hi p (by rw[rgphs_len];exact hp)
 obtain⟨ua,un,uc,rfl,hu, -⟩:=h2
 refine⟨b,off,n,c,ua,un,uc,rfl,by omega,h1, ?_⟩
 rw[nI_len]at hu
 rw[←hu]
 simp[rgphs]
theorem filt_succ {q:Q3→Bool} {l:List Q3} {k:Nat} (h:k<l.length):(q l[k]=true→(l.take (k+1)).filter q=(l.take k).filter q++[l[k]])∧(q l[k]=false→(l.take (k+1)).filter q=(l.take k).filter q):=by
 rw[qaI h,List.filter_append]
 exact⟨fun e=>by simp[List.filter_cons,e],fun e=>by simp[List.filter_cons,e]⟩
theorem rFree4_any (l:List (List (List Q4))) (gv:Value) (p:Nat) (W:World) (hl:l.length≤1000) (hp:p<l.length) (h1:GsV W gv (rgss l)):
  Calls Tryz.prog 16 #[gv, .int .i64 p] W (RetW W (rfreeL l p)):=by
 obtain⟨i0,hi0,hz0,hz1,hz2⟩:=info_parts info_way
 have Hi0:=YJ (And.intro hi0 (And.intro hz0 (And.intro hz1 hz2)))
 clear hi0 hz0 hz1 hz2
 have HWy:=fun W'=>YJ (r4Ways_any W')
 have HgsAt:=fun k (hk:k<ways26.length) (hk2:k<(rgss l).length)=>YJ (show(rgss l)[k]'hk2=rgphs l (ways26[k]'hk)from by simp[rgss])
 have HAt:=fun(w:World) (gi:Value) (v:Q3)=>YJ (@grf_at w gi l v p hp)
 have HQ:=fun v=>YJ (show rfreeQ l p v=((rgph l v p).length==0)from rfl)
 have Hrl:=YJ (rgss_len l)
 obtain⟨ga,gn,gc,rfl,hgn, -,hgx⟩:=h1
 obtain rfl:gn=26:=by rw[←hgn,rgss_len]
 have HG:=YJ hgx
 have H26:Hid (ways26.length=26):=YJ rfl
 have HE:Hid ((ways26.take 26).filter (rfreeQ l p)=rfreeL l p):=YJ (by unfold rfreeL;rw[show ways26.take 26=ways26 from rfl])
 have Hsuc:=fun k (hk:k<ways26.length)=>YJ (@filt_succ (rfreeQ l p) ways26 k hk)
 have Hlen:Hid (∀k,((ways26.take k).filter (rfreeQ l p)).length≤26):=YJ (fun k=>qaD (List.length_filter_le _ _) (by rw[List.length_take,H26.out];omega))
 clear hgx hgn
 generalize rfreeL l p=res at*
 have hpz:(p:Int)<(1000:Int):=by omega
 go_enter Tryz.func16,Tryz.ntmps16
 go_wp2_with fail
 refine((HWy _).out).mono ?_
 rintro e w1 ⟨wv,rfl,hb1,ho1⟩
 have hw1:Below W.heap.size W w1:=by first|exact hb1|exact fB bel hb1
 have hq:=q3s_own ho1
 rw[H26.out]at ho1
 obtain⟨wa,wn,wc,rfl,hwn, -,hwx⟩:=hq
 have hwn':wn=26:=by rw[←hwn];exact H26.out
 subst hwn'
 have HX:=YJ hwx
 clear HWy ho1 hb1 hwx hwn
 generalize ways26=WS at*
 go_wp2
 go_loopw [5,7] (fun s x wr=>∃k:Nat,k≤26∧x= .int .i64 k∧Below w1.heap.size w1 wr∧Hid (wr.ownsRow w1.heap.size 36 3 s ((WS.take k).filter (rfreeQ l p)).length (((WS.take k).filter (rfreeQ l p)).flatMap enc3))) (fun _ x _=>26-(intOf x).toNat)
 case atStart=>exact⟨0,by omega,rfl,brf,YJ (World.ownsRow_nil _ _ _ _)⟩
 case round=>
  obtain⟨k,hk,rfl,hb,HO⟩:=hrel
  obtain⟨oa,oc,rfl⟩:=aT HO.out
  by_cases hlt:k<26
  ·have g1:(k:Int)<26:=by omega
   have g2:(0:Int)≤(k:Int):=by omega
   have hkl:k<WS.length:=by rw[H26.out];exact hlt
   obtain⟨b,off,rfl,hi3⟩:=HX.out (by omega)
   obtain⟨c0,c1,c2⟩:=(hi3.below hb) k hkl
   obtain⟨gb,goff,rfl,hgx⟩:=HG.out (by omega)
   have hgl:k<(rgss l).length:=by rw[Hrl.out];exact hlt
   obtain⟨gi,e1,hgi⟩:=hgx k hgl
   rw[(HgsAt k hkl hgl).out]at hgi
   have hwr:=fB hw1 hb
   have e1':=ab hwr e1
   obtain⟨g1a,g1o,g1n,g1c,ua,un,uc,rfl,hpn,hc,hun⟩:=(HAt wr gi WS[k]).out (GrfV.below hgi hwr)
   have hS:=(Hsuc k hkl).out
   have HQk:=(HQ WS[k]).out
   have hlen:=Hlen.out k
   rw[hun]at HQk
   clear hi3 hgx hgi HgsAt HAt Hsuc HX HG e1 HQ hun Hlen
   generalize WS[k]=wy at*
   obtain⟨x,y,z⟩:=wy
   simp only at c0 c1 c2
   have g4:(p:Int)<(g1n:Int):=by omega
   have z1:=qaC wr _ c0
   have z2:=qaC wr _ e1'
   have z3:=qaC wr _ hc
   simp only at z1 z2 z3
   generalize hP:(WS.take k).filter (rfreeQ l p)=P at*
   by_cases h0:un=0
   ·subst h0
    have Hs':=YJ (hS.1 (by rw[HQk];rfl))
    clear hS HQk
    go_wp2_with (at_builtin;refine wpList_append_own _ rfl _ _ 33 rfl w1.heap.size 36 i0 (vW (0,0,0)) 3 24 und_ways Hi0.out.1 Hi0.out.2.1 Hi0.out.2.2.1 Hi0.out.2.2.2 rfl (by decide) _ P.length _ rfl (HO.out.alloc _) ⟨_,0,none⟩ 1 1 (enc3 (x,y,z)) rfl rfl (fun jj uu hu=>by rw[jY,aq (by simp) jj];simpa [enc3]using hu) (fun u hu=>by simp[enc3]at hu;rcases hu with rfl|rfl|rfl<;>rfl) (by unfold maxLen;omega) (by omega) (by have:=hb.size;simp;omega) ?_)
    intro v' w2 hown2 hg2 _
    have hb2:Below w1.heap.size w1 w2:=(hb.alloc hb.size _).grown hg2 (by have:=hb.size;simp;omega) (fun z hz=>(HO.out.lt z hz).1)
    have HO2:=YJ hown2
    clear hown2 hg2
    go_wp2
    go_roundw
    case rel=>exact⟨k+1,by omega,by go_num,hb2,YJ (by rw[Hs'.out];simpa using HO2.out)⟩
    case measure=>first|(simp[intOf];done)|(simp[intOf];omega)
   ·have h0':((un:Int)==0)=false:=by simp only[beq_eq_false_iff_ne,ne_eq];omega
    have Hs':=YJ (hS.2 (by rw[HQk];simpa using h0))
    clear hS HQk
    go_wp2
    go_roundw
    case rel=>exact⟨k+1,by omega,by go_num,hb,YJ (by rw[Hs'.out];exact HO.out)⟩
    case measure=>first|(simp[intOf];done)|(simp[intOf];omega)
  ·obtain rfl:k=26:=by omega
   clear HX HG HgsAt HAt Hsuc
   have h9:=HO.out
   rw[HE.out]at h9
   have hs26:((WS.take 26).filter (rfreeQ l p))=res:=HE.out
   go_wp2
   go_ret
   exact⟨_,rfl,fB hw1 hb,by rw[hs26];exact AY h9 hw1.size⟩
end
section
open Go.RowKit Go.Shelf Go.Lib
def But2 (mb tb:Nat) (W X:World):Prop:=Below mb W X∧W.heap.size≤X.heap.size∧∀k,k<W.heap.size→k≠mb→k≠tb→X.heap[k]? =W.heap[k]?
theorem But2.refl (mb tb:Nat) (W:World):But2 mb tb W W:=⟨brf,qaA _,fun _ _ _ _=>rfl⟩
theorem But2.trans {mb tb:Nat} {W X Y:World} (h:But2 mb tb W X) (k:But2 mb tb X Y):But2 mb tb W Y:=⟨h.1.trans k.1,qaD h.2.1 k.2.1,fun i hi hn ht=>(k.2.2 i (qaG hi h.2.1) hn ht).trans (h.2.2 i hi hn ht)⟩
theorem But2.of_butm {mb tb:Nat} {W X:World} (h:ButM mb W X):But2 mb tb W X:=⟨h.1,h.2.1,fun k hk hm _=>h.2.2 k hk hm⟩
theorem But2.of_below {mb tb:Nat} {W X:World} (hm:mb≤W.heap.size) (h:Below W.heap.size W X):But2 mb tb W X:= .of_butm (.of_below hm h)
theorem But2.set {mb tb:Nat} {W X:World} (h:But2 mb tb W X) (hm:mb<tb) (i:Nat) (v:Value):But2 mb tb W (X.setCell ⟨tb,i,none⟩ v):=
 ⟨h.1.setCell (by show mb≤tb;omega) v,by simpa using h.2.1,fun k hk hn ht=>(qaH _ _ _ k ht).trans (h.2.2 k hk hn ht)⟩
theorem But2.grown {mb tb:Nat} {W X Y:World} {row:Option Nat} {B:Nat} (h:But2 mb tb W X) (hg:X.grownBy Y row) (hB:W.heap.size≤B) (hm:mb<W.heap.size) (hr:∀r,row=some r→B≤r):But2 mb tb W Y:=
 ⟨h.1.grown hg (by have:=h.2.1;omega) (fun k e=>by have:=hr k e;omega),qaD h.2.1 hg.size,fun k hk hn ht=>(hg.block k (qaG hk h.2.1) (fun e=>by have:=hr k e.symm;omega)).trans (h.2.2 k hk hn ht)⟩
theorem But2.keeps {mb tb B:Nat} {W X:World} (h:But2 mb tb W X) (hb:mb<B) (ht:tb<B):KeepsFrom B W X:=⟨h.2.1,fun k o hB hk _=>(h.2.2 k (alsl.1 hk).1 (by omega) (by omega)).trans hk⟩
def updN {α:Type} (F:Nat→α) (i:Nat) (v:α) (j:Nat):α:=if j=i then v else F j
theorem upd_arr (F:Nat→Value) (n i:Nat) (v:Value):((List.range n).map F).toArray.setIfInBounds i v=((List.range n).map (updN F i v)).toArray:=by
 apply Array.ext
 ·simp
 ·intro j h1 h2
  have hj:j<n:=by simpa using h2
  rw[Array.getElem_setIfInBounds (by simpa using hj)]
  by_cases e:i=j
  ·subst e
   simp[updN]
  ·have e':¬j=i:=fun h=>e h.symm
   simp[updN,e,e']
def TabF (B tb n:Nat) (X:World) (F:Nat→Value) (R:Nat→List Q3):Prop:=
 X.heap[tb]? =some (.cells ((List.range n).map F).toArray 33 (0,0))∧(∀i,i<n→X.ownsRow B 36 3 (F i) (R i).length ((R i).flatMap enc3))∧(∀i j,i<n→j<n→i≠j→(F i).ownBlock=none∨(F i).ownBlock≠(F j).ownBlock)∧(∀i,i<n→R i=[]→F i= .slice none 0 0)
theorem TabF.below {B tb n:Nat} {X Y:World} {F:Nat→Value} {R:Nat→List Q3} (h:TabF B tb n X F R) (hb:Below X.heap.size X Y):TabF B tb n Y F R:=
 ⟨(hb.block _ (ah h.1)).trans h.1,fun i hi=>au (h.2.1 i hi) hb,h.2.2⟩
theorem TabF.butm {B tb n mb m:Nat} {X Y:World} {F:Nat→Value} {R:Nat→List Q3} {D:DataW Value} (h:TabF B tb n X F R) (hb:ButM mb X Y) (ht:tb≠mb) (hm:OwM X mb m D):TabF B tb n Y F R:=
 ⟨(hb.2.2 _ (ah h.1) ht).trans h.1,fun i hi=>(h.2.1 i hi).kept (row:=some mb) ⟨hb.1.os,hb.1.tape,hb.1.output,hb.2.1,fun k hk hn=>hb.2.2 k hk (fun e=>hn (by rw[e]))⟩ (.inr (fun e=>by
  rcases(h.2.1 i hi).2 with⟨h0,_⟩|⟨g,cap,cur,h0,_,hgb,_⟩
  ·rw[h0]at e;simp[Value.ownBlock]at e
  ·rw[h0]at e
   have:g=mb:=by simpa [Value.ownBlock]using e
   exact rt hm hgb this)),h.2.2⟩
theorem TabF.moved {B tb n:Nat} {X Y:World} {F:Nat→Value} {R:Nat→List Q3} {row:Option Nat} (h:TabF B tb n X F R) (hg:X.grownBy Y row) (hc:∀r,row=some r→∃o:Obj,X.heap[r]? =some o∧o.isCells=false):TabF B tb n Y F R:=
 ⟨Ck tb (fun(_:Unit)=>((List.range n).map F).toArray) _ () X Y row h.1 hg hc,fun i hi=>CC (h.2.1 i hi) hg hc,h.2.2⟩
theorem TabF.cellW {B tb n i:Nat} {X:World} {F:Nat→Value} {R:Nat→List Q3} (h:TabF B tb n X F R) (hi:i<n):X.cell? ⟨tb,i,none⟩=some (F i)∧X.frozen? ⟨tb,i,none⟩=false∧tb<X.heap.size:=
 ⟨by rw[ag h.1];simp[hi],aC h.1 i,ah h.1⟩
theorem TabF.startW {B tb n:Nat} {X:World} (h:X.heap[tb]? =some (.cells (List.replicate n (Value.slice none 0 0)).toArray 33 (0,0))):TabF B tb n X (fun _=> .slice none 0 0) (fun _=>[]):=
 ⟨by rw[h];congr 3;apply List.ext_getElem<;>simp,fun i _=>World.ownsRow_nil _ _ _ _,fun i j _ _ _=> .inl rfl,fun i _ _=>rfl⟩
theorem TabF.blkW {B tb n i:Nat} {X:World} {F:Nat→Value} {R:Nat→List Q3} (h:TabF B tb n X F R) (hi:i<n):∀r,(F i).ownBlock=some r→B≤r∧∃cs x,X.heap[r]? =some (.cells cs 36 (0,0))∧cs[0]? =some (.int .i64 x):=fun r hr=>by
 have hne:R i≠[]:=fun e=>by
  rw[h.2.2.2 i hi e]at hr
  simp[Value.ownBlock]at hr
 rcases(h.2.1 i hi).2 with⟨h0,_⟩|⟨g,cap,cur,h0,hb,hgb,_,_,_,ht⟩
 ·rw[h0]at hr;simp[Value.ownBlock]at hr
 ·rw[h0]at hr
  obtain rfl:g=r:=by simpa [Value.ownBlock]using hr
  cases hR:R i with
  |nil=>exact absurd hR hne
  |cons a l=>
   rw[hR]at ht
   have h2:(cur.toList.take ((a::l).length*3))[0]? =((a::l).flatMap enc3)[0]? :=by rw[ht]
   rw[List.getElem?_take_of_lt (by simp)]at h2
   exact⟨hb,cur,a.1,hgb,by simpa [enc3]using h2⟩
theorem gph_row {w w':World} {g:Nat} {G:List Nat} {row:Option Nat} (h:GphAt w g G) (hg:w.grownBy w' row) (hr:∀r,row=some r→∃cs x,w.heap[r]? =some (.cells cs 36 (0,0))∧cs[0]? =some (.int .i64 x)):GphAt w' g G:=fun i hi=>by
 have h1:=h i hi
 have hne:some g≠row:=fun e=>by
  obtain⟨cs,x,h2,h3⟩:=hr g e.symm
  have h4:=h 0 (by omega)
  rw[ag h2,h3]at h4
  cases h4
 rw[←h1]
 simp only[World.cell?,hg.block g (qaC w _ h1) hne]
theorem gph_tab {w:World} {g tb i:Nat} {G:List Nat} {n:Nat} {F:Nat→Value} {v:Value} (h:GphAt w g G) (ht:w.heap[tb]? =some (.cells ((List.range n).map F).toArray 33 (0,0))) (hn:0<n) (hF:∃a m c,F 0= .slice a m c):GphAt (w.setCell ⟨tb,i,none⟩ v) g G:=fun j hj=>by
 have h1:=h j hj
 have hne:g≠tb:=fun e=>by
  subst e
  have h4:=h 0 (by omega)
  rw[ag ht]at h4
  obtain⟨a,m,c,e⟩:=hF
  simp[hn,e]at h4
 rw[←h1]
 simp only[World.cell?,qaH w ⟨tb,i,none⟩ v g hne]
theorem TabF.appW {B tb n i:Nat} {X Y:World} {F:Nat→Value} {R:Nat→List Q3} {v':Value} {x:Q3} (h:TabF B tb n X F R) (hi:i<n) (hg:X.grownBy Y (F i).ownBlock) (hown:Y.ownsRow B 36 3 v' ((R i).length+1) ((R i).flatMap enc3++enc3 x)) (hat:v'.ownBlock=(F i).ownBlock∨v'.ownBlock=some X.heap.size):
  TabF B tb n (Y.setCell ⟨tb,i,none⟩ v') (updN F i v') (updN R i (R i++[x])):=by
 have hT:(36:TypeId)≠33:=by decide
 have hY:Y.heap[tb]? =some (.cells ((List.range n).map F).toArray 33 (0,0)):=(hg.block tb (ah h.1) (fun e=>aG (h.2.1 i hi) h.1 hT e.symm)).trans h.1
 refine⟨?_,fun j hj=> ?_,fun j k hj hk hn=> ?_,fun j hj he=> ?_⟩
 ·rw[←upd_arr]
  exact Tu hY i v'
 ·by_cases e:j=i
  ·subst e
   have:updN R j (R j++[x]) j=R j++[x]:=by simp[updN]
   rw[this]
   have:updN F j v' j=v':=by simp[updN]
   rw[this]
   refine eU ?_ hY hT
   simpa using hown
  ·have:updN R i (R i++[x]) j=R j:=by simp[updN,e]
   rw[this]
   have:updN F i v' j=F j:=by simp[updN,e]
   rw[this]
   exact eU ((h.2.1 j hj).kept hg (h.2.2.1 j i hj hi e)) hY hT
 ·have key:∀j,j<n→j≠i→(F j).ownBlock=none∨(F j).ownBlock≠v'.ownBlock:=fun j hj e=>by
   rcases hat with e2|e2
   ·rw[e2];exact h.2.2.1 j i hj hi e
   ·rw[e2]
    cases hF:(F j).ownBlock with
    |none=>exact .inl rfl
    |some r=>
     refine .inr fun e3=> ?_
     injection e3 with e3
     have:=((h.2.1 j hj).lt r hF).2
     omega
  by_cases e:j=i
  ·subst e
   have e1:updN F j v' j=v':=by simp[updN]
   have e2:updN F j v' k=F k:=by simp[updN,Ne.symm hn]
   rw[e1,e2]
   rcases key k hk (Ne.symm hn)with h1|h1
   ·rw[h1]
    cases v'.ownBlock with
    |none=>exact .inl rfl
    |some r=>exact .inr (by simp)
   ·exact .inr (Ne.symm h1)
  ·have e1:updN F i v' j=F j:=by simp[updN,e]
   rw[e1]
   by_cases e3:k=i
   ·subst e3
    have e2:updN F k v' k=v':=by simp[updN]
    rw[e2]
    exact key j hj e
   ·have e2:updN F i v' k=F k:=by simp[updN,e3]
    rw[e2]
    exact h.2.2.1 j k hj hk hn
 ·by_cases e:j=i
  ·subst e
   simp[updN]at he
  ·simp only[updN,if_neg e]at he ⊢
   exact h.2.2.2 j hj he
theorem TabF.congrW {B tb n:Nat} {X:World} {F:Nat→Value} {R R':Nat→List Q3} (h:TabF B tb n X F R) (he:∀i,i<n→R i=R' i):TabF B tb n X F R':=
 ⟨h.1,fun i hi=>by rw[←he i hi];exact h.2.1 i hi,h.2.2.1,fun i hi h0=>h.2.2.2 i hi ((he i hi).trans h0)⟩
theorem map_row {w w':World} {mb m:Nat} {D:DataW Value} {Gf:Q3→List Nat} {row:Option Nat} (h:MapS w mb m D Gf) (hg:w.grownBy w' row) (hr:∀r,row=some r→∃cs x,w.heap[r]? =some (.cells cs 36 (0,0))∧cs[0]? =some (.int .i64 x)):MapS w' mb m D Gf:=
 ⟨h.1.moved hg (fun e=>by obtain⟨cs,_,hc,_⟩:=hr mb e;exact rt h.1 hc rfl),fun v hv hh=>by
  obtain⟨g',h1,h2⟩:=h.2 v hv hh
  refine⟨g',h1,(hg.block g' (ah h2) (fun e=> ?_)).trans h2⟩
  obtain⟨cs,_,hc,_⟩:=hr g' e.symm
  rw[hc]at h2
  simp at h2⟩
def frB (ps:List (List Bod)) (j:Nat) (v:Q3):Bool:=(eM ps v).getD j 0==0
def frR (ps:List (List Bod)) (pre:List On) (x:On) (k j:Nat):List Q3:=if j<k then filS (frB ps j) (pre++[x])else filS (frB ps j) pre
theorem frR_zero (ps:List (List Bod)) (pre:List On) (x:On) (n:Nat):∀j,j<n→filS (frB ps j) pre=frR ps pre x 0 j:=fun j _=>by simp[frR]
theorem frR_end (ps:List (List Bod)) (pre:List On) (x:On) (n:Nat):∀j,j<n→frR ps pre x n j=filS (frB ps j) (pre++[x]):=fun j h=>by simp[frR,h]
theorem frR_at (ps:List (List Bod)) (pre:List On) (x:On) (k:Nat):frR ps pre x k k=filS (frB ps k) pre:=by simp[frR]
theorem frR_hit {ps:List (List Bod)} {pre:List On} {x:On} {k:Nat} (h:frB ps k x.1=true) (n:Nat):∀j,j<n→updN (frR ps pre x k) k (frR ps pre x k k++[x.1]) j=frR ps pre x (k+1) j:=fun j _=>by
 unfold updN
 split
 ·rename_i e
  subst e
  rw[frR_at]
  have:j<j+1:=by omega
  simp only[frR,if_pos this,filS_hit _ pre h]
 ·rename_i e
  unfold frR
  by_cases hj:j<k
  ·rw[if_pos hj,if_pos (by omega)]
  ·rw[if_neg hj,if_neg (by omega)]
theorem frR_miss {ps:List (List Bod)} {pre:List On} {x:On} {k:Nat} (h:frB ps k x.1=false) (n:Nat):∀j,j<n→frR ps pre x k j=frR ps pre x (k+1) j:=fun j _=>by
 unfold frR
 by_cases hj:j<k
 ·rw[if_pos hj,if_pos (by omega)]
 ·rw[if_neg hj]
  by_cases e:j=k
  ·subst e
   rw[if_pos (by omega),filS_miss _ pre h]
  ·rw[if_neg (by omega)]
theorem frR_len (ps:List (List Bod)) (pre:List On) (x:On) (k:Nat):(frR ps pre x k k).length≤pre.length:=by rw[frR_at];exact filS_len _ _
def FrI (ps:List (List Bod)) (mb m0 tb n:Nat) (W0:World) (pre:List On) (X:World):Prop:=But2 mb tb W0 X∧(∃m D,MapS X mb m D (eM ps)∧m≤m0+2*pre.length)∧∃F,TabF W0.heap.size tb n X F (fun j=>filS (frB ps j) pre)
theorem fri_own (ps:List (List Bod)) (mb m0 tb n:Nat) (W0:World) (hmb:mb<W0.heap.size):OwnFrom W0.heap.size (FrI ps mb m0 tb n W0):=by
 rintro pre X Y row ⟨h1,⟨m,D,h2,h3⟩,F,h4⟩ hg hr
 exact⟨h1.grown hg (qaA _) hmb (fun r e=>(hr r e).1),⟨m,D,h2.moved hg (fun e=>by have:=(hr _ e).1;omega) (fun r e=>(hr r e).2),h3⟩,F,h4.moved hg (fun r e=>(hr r e).2)⟩
theorem TabF.eachW {B tb n:Nat} {X:World} {F:Nat→Value} {R:Nat→List Q3} (h:TabF B tb n X F R):Each X (.slice (some ⟨tb,0,none⟩) n n) Q3s ((List.range n).map R):=
 ⟨_,_,_,rfl,by simp,qaA _,fun _=>⟨tb,0,rfl,fun i hi=>by
  have hi':i<n:=by simpa using hi
  refine⟨F i,by simpa using(h.cellW hi').1, ?_⟩
  rw[List.getElem_map,List.getElem_range]
  exact q3s_own (h.2.1 i hi')⟩⟩
end
section
open Go.RowKit
section
variable {P:Program} {ops:Array Oper} {md:Region.Mode} {Q:Exit→Act→World→Prop}
theorem any_region_growN {a:Act} {w:World} {l:List Oper} (wi ci:List Nat) (t0:Nat) (ms:List Nat) (f0:Nat) (fs:List Nat) (R:List SP) (S:World→Prop) (hB:il .any l.toArray wi ci t0 (ms++f0::fs)=true)
  (hB2:fQ .any l.toArray f0 (ci++t0::ms)=true)
  (hS:∀u:Ext w,S u.val) (hz:pZ P l.toArray S (xm R) wi a)
  (h:wpK P .any l.toArray (xm R) w Q [] (fun vals a'=>∀u:Ext w,(∀i∈ci,xm R i (vals i) u.val)→wpList P l.toArray (vK P l.toArray S Q (f0::fs) ms) (bu l.toArray [t0]) a' u.val) ci (fun _=>undef) a):
  wpAny P .any l.toArray (NoPanic Q) l.toArray.size (Array.replicate l.toArray.size false) a {w with drawn:=w.drawn+1}:=by
 have hst:∀i v w w',Below w.heap.size w w'→xm R i v w→xm R i v w':=fun i v w w' hb h=>(R.getD i (sv undef)).2 v w w' hb h
 have hB':=hB
 simp only[il,qaF,decide_eq_true_eq]at hB
 obtain⟨⟨⟨⟨⟨⟨⟨⟨⟨⟨⟨⟨⟨⟨hsel,hd⟩,hnd⟩,hpw⟩,htl⟩,hsz⟩,hs⟩,hwc⟩,hwn⟩,hfr⟩,hc⟩,hdis⟩,hcov⟩,hop⟩,hfo⟩:=hB
 have hlt:∀i∈ci,i<l.toArray.size:=fun i hi=>by
  have h:=alsi.1 hop i hi
  rcases Nat.lt_or_ge i l.toArray.size with h'|h'
  ·exact h'
  ·rw[Array.getElem?_eq_none h']at h;cases h
 have hdep:∀i∈ci,∀j,Region.waitsFor .any l.toArray i j=true→j<i∧j∈ci:=fun i hi j hj=>by
  have h:=alsi.1 hop i hi
  obtain⟨o,ho,e,hem,hb,rfl⟩:=Region.waitsFor_spec hj
  rw[ho]at h
  simp only[qaF]at h
  have:=Array.all_eq_true'.1 h.1 e hem
  simpa [hb]using this
 have hlk:∀i∈ci,∀o,l.toArray[i]? =some o→∀j∈ci,Region.waitsFor .any l.toArray i j=true∨∀d,aM l.toArray j=some d→d ∉ o.looksAt l.toArray:=fun i hi o ho j hj=>by
  have h:=alsi.1 hop i hi
  rw[ho]at h
  simp only[qaF]at h
  have h2:=alsi.1 h.2 j (List.mem_range.2 (hlt j hj))
  have hnt:j ∉ t0::(ms++f0::fs):=by have:=alsi.1 hdis j hj;simpa using this
  simp only[Bool.or_eq_true]at h2
  rcases h2 with(h3|h3)|h3
  ·exact absurd (by simpa using h3) hnt
  ·exact .inl h3
  ·refine .inr fun d hd hm=> ?_
   rw[hd]at h3
   simp[hm]at h3
 have hnil:∀j,(bw l.toArray [] l.toArray.size).getD j false=false:=fun j=>by rw[bg];simp
 have hobs:=gK (P:=P) (md:= .any) (Q:=Q) (zi:=[]) (R:=xm R) (a0:=a) (w0:=w) hsel hd hpw hlt hdep hlk ci [] (fun _=>undef) rfl (by rw[dD hnil];exact h)
 have hrep:∀j,(Array.replicate l.toArray.size false).getD j false=false:=fun j=>getD_replicate_false _ _
 have hwc':∀i∈wi,i∈ci:=fun i hi=>by have:=alsi.1 hwc i hi;simpa using this
 have hcf:cT .any l.toArray (f0::fs)=true:=Pp (t0::ms) hc
 have hit:∀i∈wi,i ∉ t0::(ms++f0::fs):=fun i hi=>by have:=alsi.1 hdis i (hwc' i hi);simpa using this
 have hgo:=ot (P:=P) (Q:=Q) hB' (a0:=a) (w0:=w) hS hst (fun i hi vals=>by
   have h1:=hobs.1 i hi vals (by simp)
   intro w' hb hR
   have h2:=h1 w' hb hR
   simpa using h2) (fun vals w' hb hR=>by
   obtain⟨vals1,h1,h2⟩:=hobs.2 vals (by simp) (fun j hj=>⟨w',hR j hj⟩)
   rw[dO (vals:=vals) (vals':=vals1) (fun j hj=>h1 j (by rw[bg]at hj;simp at hj;exact hj.2))]
   exact h2 ⟨w',hb⟩ (fun i hi=>by rw[←h1 i hi];exact hR i hi))
 have hb0:Below w.heap.size w {w with drawn:=w.drawn+1}:=⟨rfl,rfl,rfl,qaA _,fun _ _=>rfl⟩
 have htl':∀t∈t0::(ms++f0::fs),t<l.toArray.size:=fun t ht=>by have:=alsi.1 htl t ht;simpa using this
 have:=nA (P:=P) (md:= .any) (Q:=Q) (wi:=wi) (cs:=ci++t0::ms) (f0:=f0) (fs:=fs) (S:=S) (R:=xm R) (a0:=a) (w:={w with drawn:=w.drawn+1}) (g:=(ci.length-wi.length)+(1+(ms.length+(fs.length+1)))) hsel hd hB2 hcf (fun i hi=>List.mem_append_left _ (hwc' i hi)) (fun i hi h=>hit i hi (List.mem_cons_of_mem _ (List.mem_append_right _ h))) (hS ⟨_,hb0⟩)
  (fun listed vals inv hl hR=>hgo (ci.length-wi.length) listed vals _ ⟨inv.closed,fun t ht hts=>by
    refine getD_in (by rw[inv.size];exact hts) ?_
    cases hx:listed.getD t false with
    |false=>rfl
    |true=>exact absurd ht (hit t ((hl t).1 hx)),inv.size⟩ (fun i hi=>(hl i).2 hi) (by have:=pT hnd hwn hwc' hl;omega) hb0 hR)
  wi [] (Array.replicate l.toArray.size false) (fun _=>undef) rfl (fun i=>by rw[hrep];simp) ⟨fun j oj _ hl=>(by rw[hrep]at hl;cases hl),fun t _ ht=>getD_in (by simpa using ht) (getD_replicate_false _ _),by simp⟩
  (fun j hj=>by rw[hrep]at hj;cases hj) hfr (by rw[dD hrep];exact hz)
 rw[dD hrep]at this
 have hle:wi.length≤ci.length:=by
  have h2:(ci.filter fun i=>wi.contains i).length=wi.length:=by
   refine List.Perm.length_eq ((List.perm_ext_iff_of_nodup (hnd.filter _) hwn).2 fun x=> ?_)
   rw[alsm]
   exact⟨fun h=>by simpa using h.2,fun h=>⟨hwc' x h,by simpa using h⟩⟩
  have:=List.length_filter_le (fun i=>wi.contains i) ci
  omega
 have h9:=zj _ _ _ _ this
 simp only[qaE,List.length_cons]at hsz
 rw[show wi.length+(ci.length-wi.length+(1+(ms.length+(fs.length+1))))=l.toArray.size by omega]at h9
 exact h9
def calmB (o:Oper):Bool:=match o.op with
 | .move _=>true
 | .assign _=>true
 | .load _ _=>true
 | .store _ _ _=>true
 | .indexAddr _ _ _=>true
 | .fieldAddr _ _ _=>true
 | .buildSlice _ _ _=>true
 | .build _ _=>true
 | .call c=>match c.callee with
  | .builtin .append=>true
  |_=>false
 |_=>false
def OnlyN (K:Act→World→Prop):Exit→Act→World→Prop
 | .normal,a,w=>K a w
 |_,_,_=>False
theorem OnlyN.normal {Q':Exit→Act→World→Prop} {a:Act} {w:World} (h:Q' .normal a w):OnlyN (fun a w=>Q' .normal a w) .normal a w:=h
theorem up_val {F:Fence} {n:Nat} {o:Oper} {a:Act} {K K' Kn:Act→World→Prop} {Q':Exit→Act→World→Prop} {s:Sem Value} {w:World} (hK:∀a w,K a w→K' a w) (h:o.upon P a K (NoPanic (OnlyN Kn)) ((s>>=fun v=>pure (Next.value v)).run P w)):o.uponIn F n P a K' Q' ((s>>=fun v=>pure (Next.value v)).run P w):=by
 cases hr:s.run P w with
 |ok v w'=>
  simp[hr,Result.andThen]at h ⊢
  exact hK _ _ h
 |halt e w'=>
  simp[hr,Result.andThen]at h ⊢
  cases e<;>exact(h:False).elim
theorem up_unit {F:Fence} {n:Nat} {o:Oper} {a:Act} {K K' Kn:Act→World→Prop} {Q':Exit→Act→World→Prop} {s:Sem Unit} {w:World} (hK:∀a w,K a w→K' a w) (h:o.upon P a K (NoPanic (OnlyN Kn)) ((s>>=fun _=>pure Next.skip).run P w)):o.uponIn F n P a K' Q' ((s>>=fun _=>pure Next.skip).run P w):=by
 cases hr:s.run P w with
 |ok v w'=>
  simp[hr,Result.andThen]at h ⊢
  exact hK _ _ h
 |halt e w'=>
  simp[hr,Result.andThen]at h ⊢
  cases e<;>exact(h:False).elim
theorem lift_op {F:Fence} {n:Nat} {o:Oper} {a:Act} {K K' Kn:Act→World→Prop} {Q':Exit→Act→World→Prop} {w:World} (hc:calmB o=true) (hK:∀a w,K a w→K' a w) (h:o.wp P a w K (NoPanic (OnlyN Kn))∨(o.asks P a w∧LetsOut (NoPanic (OnlyN Kn)))):o.wpIn F n P a w K' Q':=by
 rcases h with h|⟨_,_,_,h⟩
 ·unfold Oper.wp at h
  unfold Oper.wpIn
  have hd:∀c,o.op≠ .defer c:=fun c e=>by unfold calmB at hc;rw[e]at hc;cases hc
  rw[Oper.semAt_plain F _ _ hd]
  unfold calmB at hc
  refine⟨fun f hf=> ?_, ?_⟩
  ·unfold Oper.about at hf
   cases hop:o.op<;>rw[hop]at hf hc<;>first|(cases hf;done)|skip
   rename_i c
   simp only at hc hf
   cases hcl:c.callee<;>rw[hcl]at hc<;>first|(cases hc;done)|skip
   simp[resolve,hcl,Target.leads,Sem.run_pure]at hf
  ·cases hop:o.op<;>rw[hop]at hc<;>first|(cases hc;done)|skip
   all_goals (first|(simp only[execOp,hop]at h ⊢;first|exact up_val hK h|exact up_unit hK h|exact hK _ _ h)|skip)
   rename_i c
   simp only at hc
   cases hcl:c.callee<;>rw[hcl]at hc<;>first|(cases hc;done)|skip
   rename_i b
   cases b<;>first|(cases hc;done)|skip
   have e2:execOp a.eval o=(Builtin.append_ c.argTypes o.type (c.args.map a.eval)>>=fun v=>pure (Next.value v)):=by
    simp only[execOp,hop,resolve,hcl]
    rfl
   rw[e2]at h ⊢
   exact up_val hK h
 ·exact(h:False).elim
theorem lift_any {F:Fence} {n:Nat} {Kn:Act→World→Prop} {Q':Exit→Act→World→Prop} (hc:∀(i:Nat) (o:Oper),ops[i]? =some o→calmB o=true) (hQ:∀a w,Kn a w→Q' .normal a w):
  ∀(f:Nat) (listed:Array Bool) (a:Act) (w:World),wpAny P md ops (NoPanic (OnlyN Kn)) f listed a w→wpAnyIn F n P md ops Q' f listed a w
 |0,listed,a,w,h=>⟨h.1,hQ _ _ h.2⟩
 |f+1,listed,a,w,h=>by
  refine⟨fun h0=>hQ _ _ (h.1 h0),fun i hi=> ?_⟩
  have h1:=h.2 i hi
  unfold wpOp at h1
  unfold wpOpIn
  cases ho:ops[i]? with
  |none=>
   rw[ho]at h1
   exact lift_any hc hQ f _ _ _ h1
  |some o=>
   rw[ho]at h1
   simp only at h1 ⊢
   split at h1
   ·rename_i hw
    rw[if_pos hw]
    exact lift_op (hc i o ho) (fun a' w' h'=>lift_any hc hQ f _ a' w' h') h1
   ·rename_i hw
    rw[if_neg hw]
    refine⟨fun g hg=> ?_,lift_any hc hQ f _ _ _ h1⟩
    have hcal:=hc i o ho
    unfold calmB at hcal
    unfold Oper.about at hg
    cases hop:o.op<;>rw[hop]at hg hcal<;>first|(cases hg;done)|skip
    rename_i c
    simp only at hcal hg
    cases hcl:c.callee<;>rw[hcl]at hcal<;>first|(cases hcal;done)|skip
    simp[resolve,hcl,Target.leads,Sem.run_pure]at hg
theorem wpIn_region_lift {F:Fence} {n id:Nat} {l:List Oper} {Q':Exit→Act→World→Prop} {a:Act} {w:World} (hm:P.follows .mixedOrders=true) (hc:(l.all calmB)=true)
  (h:wpAny P .any l.toArray (NoPanic (OnlyN fun a w=>Q' .normal a w)) l.toArray.size (Array.replicate l.toArray.size false) a {w with drawn:=w.drawn+1}):(Code.region id l.toArray true).wpIn F n P Q' a w:=
 wpIn_region_any hm (lift_any (fun i o ho=>by
  have:=alsi.1 hc o
  rw[List.getElem?_toArray]at ho
  exact this (List.mem_of_getElem? ho)) (fun _ _ h=>h) _ _ _ _ h)
end
end
section
open Go.RowKit Go.Shelf Go.Lib
set_option maxRecDepth 100000
attribute [local go_sem] Oper.semAt_some Ext.cell Ext.frozen
theorem info_ways:(Tryz.prog.info? 33).map (fun i=>(i.zero,i.size,i.bytes))=some (some (.slice none 0 0),1,24):=by kernel_rfl
theorem und_wayss:Tryz.prog.underlying 25=some (.slice 33):=by kernel_rfl
theorem made_nil (n:Nat):madeCells #[.slice none 0 0] (n*1)=(List.replicate n (Value.slice none 0 0)).toArray:=by
 apply Array.ext
 ·simp[madeCells]
 ·intro j h1 h2
  simp[madeCells,Nat.mod_one]
theorem make_ways (n:Nat) (hn:n≤1000) (w:World):(Instr.makeSlice 25 (.int .i64 n) (.int .i64 n)).run Tryz.prog w= .ok (.slice (some ⟨w.heap.size,0,none⟩) n n) (w.alloc (.cells (List.replicate n (Value.slice none 0 0)).toArray 33)):=by
 obtain⟨i0,hi0,hz0,hz1,hz2⟩:=info_parts info_ways
 have h:=run_make w 25 33 i0 (.slice none 0 0) und_wayss hi0 hz0 .i64 .i64 n n (by omega) (Int.le_refl _) (by rw[hz2];omega) (by omega)
 rw[hz1]at h
 have e:(Value.slice none 0 0).cells=#[.slice none 0 0]:=rfl
 rw[e,Int.toNat_natCast,made_nil]at h
 exact h
theorem but2_butm {mb tb:Nat} {w W0 X:World} (h0:Below w.heap.size w W0) (h:But2 mb tb W0 X) (ht:w.heap.size≤tb) (hm:mb≤w.heap.size):ButM mb w X:=
 ⟨(h0.mono hm).trans h.1,qaD h0.size h.2.1,fun k hk hn=>(h.2.2 k (qaG hk h0.size) hn (by omega)).trans (h0.block k hk)⟩
theorem keeps_row {B:Nat} {X w w':World} {row:Option Nat} (h:KeepsFrom B X w) (hg:w.grownBy w' row) (hr:∀r,row=some r→∃cs x,w.heap[r]? =some (.cells cs 36 (0,0))∧cs[0]? =some (.int .i64 x)):KeepsFrom B X w':=
 h.trans ((KeepsOthers.of_grownBy hg fun j o ej hj=>by
  obtain⟨cs,_,hc,_⟩:=hr j ej
  rw[hc]at hj
  cases hj
  rfl).from B)
theorem frB_graph {ps:List (List Bod)} {v:Q3} {G:List Nat} {k:Nat} (hG:eM ps v=G) (hk:k<G.length):frB ps k v=(G[k]==0):=by
 subst hG
 unfold frB
 rw[show(eM ps v).getD k 0=(eM ps v)[k] by simp[List.getD,hk]]
def OneW (x y z:Int):Value→World→Prop:=fun v w=>∃g,v= .slice (some ⟨g,0,none⟩) 1 1∧w.heap[g]? =some (.cells #[.int .i64 x, .int .i64 y, .int .i64 z] 36 (0,0))
theorem stab_onew (x y z:Int):dR (OneW x y z):=fun _ _ _ hb ⟨g,h1,h2⟩=>⟨g,h1,(hb.block _ (ah h2)).trans h2⟩
def FreP (l:List (List (List Q4))) (W:World) (e:Ending) (w':World):Prop:=Below W.heap.size W w'∧
 ((eB l≠0∧e= .returned (.tuple #[.slice none 0 0, .int .i64 (eB l)]))∨(eB l=0∧∃v,e= .returned (.tuple #[v, .int .i64 0])∧Each w' v Q3s ((List.range l.length).map fun j=>ways26.filter (frB (psB l) j))))
theorem aFree_any (l:List (List (List Q4))) (lv:Value) (W:World) (hL:∀s∈l,∀c∈s,c.length≤1000000) (h:SolsV W lv l) (hT:TabAt 1 Lib.deBruijn64tab W):
  Calls Tryz.prog 12 #[lv] W (FreP l W):=by
 obtain⟨i0,hi0,hz0,hz1,hz2⟩:=info_parts info_way
 have Hi0:=YJ (And.intro hi0 (And.intro hz0 (And.intro hz1 hz2)))
 clear hi0 hz0 hz1 hz2
 have HCk:=fun W' (h':Below W.heap.size W W')=>YJ (Gd l lv W' hL (SolsV.below h h'))
 have HSc:=fun(h0:eB l=0) W' (h':Below W.heap.size W W')=>YJ (scene_any W' h0 (SolsV.below h h'))
 have HGr:=fun(h0:eB l=0) (v:Q3) (hv:v∈ways26) (sb mb m0:Nat) (D:DataW Value) (pv:Value) (W':World) (hm:m0≤1000) k1 k2 k3=>YJ (sgraph_any h0 hv sb mb m0 D pv W' hm k1 k2 k3)
 have HE:=fun W'=>YJ (GM W')
 have H12:=fun(h0:eB l=0)=>YJ (sq h0).1
 have HlV:Hid (∃a n c,lv= .slice a n c∧l.length=n):=YJ (by obtain⟨a,n,c,rfl,hn,_⟩:=h;exact⟨a,n,c,rfl,hn⟩)
 obtain⟨la,ln,lc,rfl,hln⟩:=HlV.out
 have Hln:=YJ hln
 have Hps:=YJ (psB_len l)
 have Hlt:=fun(h0:eB l=0) v=>YJ (gphB_lt h0 v)
 have Hgl:=fun v=>YJ (gphB_len l v)
 unfold FreP
 rw[hln]at Hgl Hps H12 ⊢
 clear h hL hT HlV hln
 obtain⟨ps,HP⟩:∃ps,Hid (psB l=ps):=⟨_,YJ rfl⟩
 rw[HP.out]at HSc HGr Hps Hlt Hgl ⊢
 generalize eB l=A at*
 refine(callsIn_wide (n:=6)).1 ?_
 refine callsIn_of_wp_marks Tryz.func12 rfl trivial ?_ rfl
 simp only[Tryz.ntmps12,List.size_toArray,List.length_cons,List.length_nil,Nat.reduceAdd,Nat.reduceSub,Array.replicate_succ,Array.replicate_zero,List.push_toArray,List.append_toArray,List.nil_append,List.cons_append]
 gi_wp2_with fail
 refine⟨trivial, ?_⟩
 refine(callsIn_wide.2 ((HCk _ bel).out)).mono ?_
 rintro e w1 ⟨rfl,hb1⟩
 have hw1:Below W.heap.size W w1:=fB bel hb1
 by_cases hA:A=0
 ·subst hA
  have h12:=(H12 (by first|rfl|trivial)).out
  have HSc':=fun W' h'=>YJ (HSc (by first|rfl|trivial) W' h').out
  have HGr':=fun v hv sb mb m0 D pv W' hm k1 k2 k3=>YJ (HGr (by first|rfl|trivial) v hv sb mb m0 D pv W' hm k1 k2 k3).out
  have Hlt':=fun v=>YJ (Hlt (by first|rfl|trivial) v).out
  clear HCk H12 HSc HGr Hlt
  gi_wp2_with fail
  refine⟨trivial, ?_⟩
  refine(callsIn_wide.2 ((HSc' _ hw1).out)).mono ?_
  rintro e w2 ⟨sb,mb,pv,rfl,hb2,hS2,hM2,hmb,hsb,hne,hP2⟩
  have hw2:=fB hw1 hb2
  have hn1000:ln≤1000:=by omega
  have hmk:=make_ways ln hn1000
  obtain⟨Zc,HZ⟩:∃Zc,Hid ((List.replicate ln (Value.slice none 0 0)).toArray=Zc):=⟨_,YJ rfl⟩
  rw[HZ.out]at hmk
  gi_wp2_with fail
  refine⟨trivial, ?_⟩
  refine(callsIn_wide.2 ((HE _).out)).mono ?_
  rintro e w3 ⟨rfl,rfl⟩
  gi_wp2
  obtain⟨W0,HW0⟩:∃W0,Hid (((w2.alloc (.cells #[.pointer (some ⟨sb,0,none⟩)] 89)).alloc (.cells Zc 33)).alloc (.cells #[.slice (some ⟨w2.heap.size+1,0,none⟩) ln ln] 25)=W0):=⟨_,YJ rfl⟩
  have hB0:Below w2.heap.size w2 W0:=by rw[←HW0.out];exact bel
  have hA0:Boxed W0 w2.heap.size 89 (.pointer (some ⟨sb,0,none⟩)):=by rw[←HW0.out];exact(aB (by first|(simp;done)|(simp;omega))).trans ((aB (by simp)).trans (ai rfl))
  have hT0:W0.heap[w2.heap.size+1]? =some (.cells Zc 33 (0,0)):=by rw[←HW0.out];exact(aB (by simp)).trans (ai (by simp))
  have hO0:Boxed W0 (w2.heap.size+1+1) 25 (.slice (some ⟨w2.heap.size+1,0,none⟩) ln ln):=by rw[←HW0.out];exact ai (by simp)
  have hsz:W0.heap.size=w2.heap.size+3:=by rw[←HW0.out];simp
  rw[HW0.out]
  clear HW0 HE hmk
  have hmbz:mb<w2.heap.size:=by
   obtain⟨es,ck,h,_⟩:=hM2
   exact(alsl.1 h).1
  have hM0:MapS W0 mb 0 (.map []) (eM ps):=(map_new hM2).kept hB0
  have hTF0:TabF W0.heap.size (w2.heap.size+1) ln W0 (fun _=> .slice none 0 0) (fun _=>[]):=TabF.startW (by rw[HZ.out];exact hT0)
  have hTF0':TabF W0.heap.size (w2.heap.size+1) ln W0 (fun _=> .slice none 0 0) (fun j=>filS (frB ps j) []):=hTF0.congrW (fun _ _=>rfl)
  have hsm:sb≠mb:=fun e=>hne e.symm
  have hsz2:=ah hS2
  have HSX:=fun(X:World) (hb:But2 mb (w2.heap.size+1) W0 X)=>YJ (show X.heap[sb]? =some (.cells #[pv, .map (some mb)] 171 (0,0))from(hb.2.2 _ (by omega) hsm (by omega)).trans ((hB0.block _ hsz2).trans hS2))
  have HPX:=fun(X:World) (hb:But2 mb (w2.heap.size+1) W0 X) (hck:CK w2 X)=>YJ (hck.pts hP2)
  have hm1:mb<w2.heap.size+1:=by omega
  refine wpIn_rangeFunc_ownH rfl (by omega) (gf:=95) (lb:=#[]) rfl trivial (enters_of Tryz.func95 (by kernel_rfl) rfl)
   (Dt (6-1) (by omega) mb W0) belowK_t (belowK_b (by omega)) (brf) (fun _=>rfl)
   (FrI ps mb 0 (w2.heap.size+1) ln W0)
   (fun _ _ _=>False)
   (fri_own ps mb 0 (w2.heap.size+1) ln W0 (by omega))
   (fun _ _ _ _ _ hs _ _=>hs)
   ⟨But2.refl _ _ _,⟨0,_,hM0,by simp⟩,_,hTF0'⟩
   (fun x a' X=>∃Bx,W0.heap.size≤Bx∧X.heap[Bx]? =some (.cells #[.int .i64 x.1.1, .int .i64 x.1.2.1, .int .i64 x.1.2.2] 36 (0,0))∧(∃cs,X.heap[w2.heap.size+1]? =some (.cells cs 33 (0,0))∧∀(i:Nat) (v:Value),cs[i]? =some v→v.ownBlock≠some Bx)∧a'={tmps:=#[.slice la ln lc,undef, .slice none 0 0, .int .i64 0, .int .i64 0, .pointer (some ⟨w2.heap.size,0,none⟩), .pointer (some ⟨w2.heap.size+1+1,0,none⟩), .pointer (some ⟨Bx,0,none⟩),undef,undef, .slice la ln lc, .int .i64 0, .int .i64 0, .bool false,undef, .slice la ln lc, .pointer (some ⟨sb,0,none⟩), .slice la ln lc, .int .i64 ln, .slice (some ⟨w2.heap.size+1,0,none⟩) ln ln, .func (.func 95) #[] #[],vW x.1,undef,undef,undef,undef,undef,undef,undef,undef,undef,undef,undef,undef,undef,undef,undef,undef,undef,undef,undef,undef,undef,undef,undef],defers:=[]})
   (fun x a' _ X Y row hs hg hr=>by obtain⟨Bx,h1,h2,⟨cs,h4,h5⟩,h3⟩:=hs;exact⟨Bx,h1,Ck Bx (fun(_:Unit)=>#[.int .i64 x.1.1, .int .i64 x.1.2.1, .int .i64 x.1.2.2]) 36 () X Y row h2 hg (fun r e=>(hr r e).2),⟨cs,Ck _ (fun(_:Unit)=>cs) _ () X Y row h4 hg (fun r e=>(hr r e).2),h5⟩,h3⟩)
   ?assign ?body ?done ?stop
  case assign=>
   rintro L pre x X K ⟨hbm,⟨m,D,hM,hm⟩,F,hF⟩ hK
   obtain⟨⟨x0,x1,x2⟩,hx⟩:=x
   have hXs:=hbm.2.1
   simp only[vW]
   gi_wp2
   have hbx:Below X.heap.size X (X.alloc (.cells #[.int .i64 x0, .int .i64 x1, .int .i64 x2] 36)):=(Below.refl _ X).alloc (qaA _) _
   exact hK _ _ (EV hbx) (hbx.mono (by omega)) ⟨hbm.trans (.of_below (by omega) hbx),⟨m,D,hM.kept hbx,hm⟩,F,hF.below hbx⟩ ⟨X.heap.size,by omega,ai rfl,⟨_,(hF.below hbx).1,fun i v hv=>by
    rw[List.getElem?_toArray,List.getElem?_map]at hv
    obtain⟨j,hj,rfl⟩:=Option.map_eq_some_iff.1 hv
    have hi:i<ln:=by
     have:=(List.getElem?_eq_some_iff.1 hj).1
     simpa using this
    have:j=i:=by
     rw[List.getElem?_range hi]at hj
     exact(Option.some.inj hj).symm
    subst this
    intro e
    have:=((hF.2.1 j hi).lt _ e).2
    omega⟩,rfl⟩
  case body=>
   rintro L pre x a' X hLl ⟨r,hr⟩ ⟨hbm,⟨m,D,hM,hm⟩,F,hF⟩ ⟨Bx,hBx,hX,⟨cs,hcs,hnb⟩,rfl⟩ hlt
   obtain⟨⟨x0,x1,x2⟩,hx⟩:=x
   simp only at hX
   have hXs:=hbm.2.1
   obtain⟨xc0,xc1,xc2,xf,xz⟩:=NO hX
   have hAX:Boxed X w2.heap.size 89 (.pointer (some ⟨sb,0,none⟩)):=(hbm.2.2 _ (by omega) (by omega) (by omega)).trans hA0
   have ca:=hAX.cell
   have h1':1≤6-1-1:=by omega
   have hNB:∀i,i<ln→(F i).ownBlock≠some Bx:=fun i hi=>by
    have e:=hcs.symm.trans hF.1
    cases e
    exact hnb i _ (by simp[hi])
   have hw2X:ButM mb w2 X:=but2_butm hB0 hbm (by omega) (by omega)
   have HC:=HGr' (x0,x1,x2) hx sb mb m D pv X (by omega) (HSX X hbm).out hM (HPX X hbm (hw2X.ck hM2)).out
   simp only[vW]at HC ⊢
   clear hcs hnb HPX HSX HGr' HSc'
   gi_wp2_with fail
   refine⟨trivial, ?_⟩
   refine(CallsIn.inRound L (callsIn_wide.2 (HC.out))).mono ?_
   rintro e w4 ⟨g,m2,D2,rfl,hb4,hs4,hk4,hG4,hM4,hm4⟩
   have hbm4:ButM mb X w4:=⟨hb4,hs4,hk4⟩
   obtain⟨G,HG⟩:∃G,Hid (eM ps (x0,x1,x2)=G):=⟨_,YJ rfl⟩
   have hgl:G.length=ln:=by rw[←HG.out];exact(Hgl _).out
   rw[HG.out]at hG4 ⊢
   have HfB:=fun k (h:k<G.length)=>YJ (frB_graph HG.out h)
   have hB4:But2 mb (w2.heap.size+1) W0 w4:=hbm.trans (.of_butm hbm4)
   have HF4:=YJ (hF.butm hbm4 (by omega) hM.1)
   have HX4:=YJ ((hbm4.2.2 _ xz (by omega)).trans hX)
   have HO4:=YJ ((hB4.2.2 (w2.heap.size+1+1) (by omega) (by omega) (by omega)).trans hO0)
   have HG4:=YJ hG4
   have HM4:=YJ hM4
   have HNB:=YJ hNB
   have hK4:KeepsFrom W0.heap.size X w4:=hbm4.keeps (by omega)
   rw[hgl]
   have HZr:=fun n=>YJ (frR_zero ps pre ⟨(x0,x1,x2),hx⟩ n)
   have HEn:=fun n=>YJ (frR_end ps pre ⟨(x0,x1,x2),hx⟩ n)
   have HHit:=fun k=>YJ (@frR_hit ps pre ⟨(x0,x1,x2),hx⟩ k)
   have HMis:=fun k=>YJ (@frR_miss ps pre ⟨(x0,x1,x2),hx⟩ k)
   have HLn:=fun k=>YJ (frR_len ps pre ⟨(x0,x1,x2),hx⟩ k)
   have HF4':Hid (TabF W0.heap.size (w2.heap.size+1) ln w4 F (frR ps pre ⟨(x0,x1,x2),hx⟩ 0)):=YJ (HF4.out.congrW (HZr ln).out)
   clear xc0 xc1 xc2 xf ca HC hG4 hM4 hF hX hNB HF4 HZr hAX
   obtain⟨RR,HRR⟩:∃RR,Hid (frR ps pre ⟨(x0,x1,x2),hx⟩=RR):=⟨_,YJ rfl⟩
   rw[HRR.out]at HF4' HEn HHit HMis HLn
   gi_wp2
   gi_loopw [26] (fun i wr=>∃(k:Nat) (F:Nat→Value),k≤ln∧i= .int .i64 k∧But2 mb (w2.heap.size+1) W0 wr∧KeepsFrom W0.heap.size X wr∧Below mb X wr∧Hid (MapS wr mb m2 D2 (eM ps))∧Hid (GphAt wr g G)∧Hid (wr.heap[Bx]? =some (.cells #[.int .i64 x0, .int .i64 x1, .int .i64 x2] 36 (0,0)))∧Hid (∀i,i<ln→(F i).ownBlock≠some Bx)∧Hid (TabF W0.heap.size (w2.heap.size+1) ln wr F (RR k))) (fun i _=>(ln-intOf i).toNat)
   case atStart=>exact⟨0,F,by omega,rfl,hB4,hK4,hb4,HM4,HG4,HX4,HNB,HF4'⟩
   case round=>
    obtain⟨k,F,hk,rfl,hB,hKr,hbX,HM,HGr,HXr,HNBr,HFr⟩:=hrel
    by_cases hkl:k<ln
    ·have t1:(k:Int)<(ln:Int):=by omega
     have t2:(0:Int)≤(k:Int):=by omega
     have hkg:k<G.length:=by omega
     have cg:=HGr.out k hkg
     have zg:=qaC wr _ cg
     simp only at zg
     have hfb:=(HfB k hkg).out
     by_cases h0:G[k]=0
     ·rw[h0]at cg
      have hfx:frB ps k (x0,x1,x2)=true:=by rw[hfb,h0];rfl
      have hro:=HFr.out.2.1 k hkl
      obtain⟨fa,fc,hFk⟩:=aT hro
      obtain⟨ctq,cf,zt⟩:=HFr.out.cellW hkl
      have hOr:Boxed wr (w2.heap.size+1+1) 25 (.slice (some ⟨w2.heap.size+1,0,none⟩) ln ln):=(hB.2.2 _ (by omega) (by omega) (by omega)).trans hO0
      have co:=hOr.cell
      have zo:=hOr.lt
      obtain⟨xc0,xc1,xc2,xf,xz5⟩:=NO HXr.out
      have hlen:=(HLn k).out
      have hrow:=HFr.out.blkW hkl
      rw[hFk]at ctq
      have HRow:=YJ hro
      rw[hFk]at HRow
      have hmx:Tryz.prog.follows .mixedOrders=true:=by kernel_rfl
      clear HG4 HM4 HX4 HO4 HNB HF4' hro
      gi_wp2
      refine wpIn_region_lift hmx (by kernel_rfl) ?_
      apply any_region_growN [0,1] [0,1,2,3,4,5,6,7] 8 [] 9 [10] [sv _,sv _,sv _,sv _,sv _,sv _,sv _,⟨OneW x0 x1 x2,by first|exact stab_onew _ _ _⟩] (fun w'=>w'.cell? ⟨w2.heap.size+1+1,0,none⟩=some (.slice (some ⟨w2.heap.size+1,0,none⟩) ln ln)) (by kernel_rfl) (by kernel_rfl) (fun u=>ab u.below co)
      ·(try go_frame)
       refine du rfl rfl ?_
       apply Exists.intro
       apply And.intro
       ·intro w9 h9
        go_simp
        first|rfl|(simp only[h9];rfl)
       refine⟨rfl, ?_⟩
       (try go_frame)
       refine du rfl rfl ?_
       apply Exists.intro
       apply And.intro
       ·intro w9 h9
        go_simp
        first|rfl|(simp only[h9];rfl)
       refine⟨rfl, ?_⟩
       exact gR
      iterate 7 ((try go_frame);refine wkQ ?_)
      try go_frame
      refine wkU (fun u hR K hK=> ?_) (fun o7=> ?_)
      ·clear hR
       go_simp
       exact hK _ _ bel ⟨_,rfl,ai rfl⟩
      try go_frame
      refine aI (fun u hR=> ?_)
      have h7:OneW x0 x1 x2 o7 u.val:=hR 7 (by simp)
      obtain⟨g7,rfl,hg7⟩:=h7
      have hub:=u.below
      have HFx:=YJ (HFr.out.below u.below)
      have HRx:=YJ (au HRow.out u.below)
      have HGx:=YJ (HGr.out.below u.below)
      have HMx:=YJ (HM.out.kept u.below)
      have hBx2:=(hub.block _ xz5).trans HXr.out
      have hOx:Boxed u.val (w2.heap.size+1+1) 25 (.slice (some ⟨w2.heap.size+1,0,none⟩) ln ln):=(hub.block _ zo).trans hOr
      have hBz:=hB.2.1
      have hxz:=ah hBx2
      have hB2:But2 mb (w2.heap.size+1) W0 u.val:=hB.trans (.of_below (by omega) hub)
      have hK2:KeepsFrom W0.heap.size X u.val:=hKr.trans (EV hub)
      have hbX2:Below mb X u.val:=hbX.trans (hub.mono (by omega))
      clear hR co zo xc0 xc1 xc2 xf ctq cf zt hrow cg zg HM HGr
      generalize u.val=wx at*
      clear u
      have hrow:=HFx.out.blkW hkl
      rw[hFk]at hrow
      simp only[oas]
      refine wpList_append_own_at _ rfl _ _ 33 rfl W0.heap.size 36 i0 (vW (0,0,0)) 3 24 und_ways Hi0.out.1 Hi0.out.2.1 Hi0.out.2.2.1 Hi0.out.2.2.2 rfl (by decide) _ _ _ rfl HRx.out ⟨g7,0,none⟩ 1 1 (enc3 (x0,x1,x2)) rfl rfl (fun jj uu hu=>by rw[jY,ag hg7];simpa [enc3]using hu) (fun u hu=>by simp[enc3]at hu;rcases hu with rfl|rfl|rfl<;>rfl) (by rw[←HRR.out]at hlen ⊢;unfold maxLen;omega) (by rw[←HRR.out]at hlen ⊢;omega) (by omega) ?_
      intro v' w5 hown5 hg5 hnil5 hat5
      obtain⟨g5,cap5,rfl⟩:=ownsRow_succ hown5
      have hO5:Boxed w5 (w2.heap.size+1+1) 25 (.slice (some ⟨w2.heap.size+1,0,none⟩) ln ln):=(hg5.block _ hOx.lt (fun e=>aG HRx.out hOx (by decide) e.symm)).trans hOx
      have hT5:=(hg5.block _ (ah HFx.out.1) (fun e=>aG HRx.out HFx.out.1 (by decide) e.symm)).trans HFx.out.1
      have hX5:=(hg5.block _ hxz (fun e=>HNBr.out k hkl (by rw[hFk];exact e.symm))).trans hBx2
      have hG5:=gph_row HGx.out hg5 (fun r e=>(hrow r e).2)
      have hM5:=map_row HMx.out hg5 (fun r e=>(hrow r e).2)
      have hB5:=hB2.grown hg5 (qaA _) (by omega) (fun r e=>(hrow r e).1)
      have hK5:=keeps_row hK2 hg5 (fun r e=>(hrow r e).2)
      have hbX5:=hbX2.grown hg5 (by omega) (fun r e=>by have:=(hrow r e).1;omega)
      have hg5':=hg5
      rw[←hFk]at hg5' hat5
      have hF6:=HFx.out.appW hkl hg5' hown5 hat5
      have HF6:=YJ (hF6.congrW ((HHit k).out hfx ln))
      have HM6:=YJ (NU (i:=k) (u:= .slice (some ⟨g5,0,none⟩) ((RR k k).length+1) cap5) hM5 hT5 (by decide))
      have HG6:=YJ (gph_tab (i:=k) (v:= .slice (some ⟨g5,0,none⟩) ((RR k k).length+1) cap5) hG5 hT5 (by omega) (by obtain⟨a,c,e⟩:=aT (HFx.out.2.1 0 (by omega));exact⟨a,_,c,e⟩))
      have hB6:=hB5.set hm1 k (.slice (some ⟨g5,0,none⟩) ((RR k k).length+1) cap5)
      have hK6:=pm hK5 ⟨w2.heap.size+1,k,none⟩ (.slice (some ⟨g5,0,none⟩) ((RR k k).length+1) cap5)
      have hbX6:=hbX5.setCell (p:=⟨w2.heap.size+1,k,none⟩) (by show mb≤w2.heap.size+1;omega) (.slice (some ⟨g5,0,none⟩) ((RR k k).length+1) cap5)
      have HX6:=YJ ((qaH w5 ⟨w2.heap.size+1,k,none⟩ (.slice (some ⟨g5,0,none⟩) ((RR k k).length+1) cap5) Bx (by show Bx≠w2.heap.size+1;omega)).trans hX5)
      have HN6:Hid (∀i,i<ln→(updN F k (.slice (some ⟨g5,0,none⟩) ((RR k k).length+1) cap5) i).ownBlock≠some Bx):=YJ (fun i hi=>by
       unfold updN
       split
       ·rcases hat5 with e|e
        ·rw[e];exact HNBr.out k hkl
        ·rw[e];intro e2;injection e2 with e2;omega
       ·exact HNBr.out i hi)
      have co5:=hO5.cell
      have ct5:w5.cell? ⟨w2.heap.size+1,k,none⟩=some (F k):=by rw[ag hT5];simp[hkl]
      have cf5:=aC hT5 k
      have zt5:=ah hT5
      refine⟨co5, ?_⟩
      simp only[oas]
      go_wp2
      refine NoPanic.normal ?_
      refine OnlyN.normal ?_
      gi_wp2
      go_roundw
      case rel=>exact⟨k+1,_,by omega,by go_num,hB6,hK6,hbX6,HM6,HG6,HX6,HN6,HF6⟩
      case measure=>first|(simp[intOf];done)|(simp[intOf];omega)
     ·have h0':((G[k]:Int)==0)=false:=by simpa using h0
      have hfx:frB ps k (x0,x1,x2)=false:=by rw[hfb];simpa using h0
      have HF2:=YJ (HFr.out.congrW ((HMis k).out hfx ln))
      gi_wp2
      go_roundw
      case rel=>exact⟨k+1,F,by omega,by go_num,hB,hKr,hbX,HM,HGr,HXr,HNBr,HF2⟩
      case measure=>first|(simp[intOf];done)|(simp[intOf];omega)
    ·obtain rfl:k=ln:=by omega
     have HF2:=HFr.out.congrW (HEn k).out
     gi_wp2
     exact⟨hKr,hbX,hB,⟨m2,D2,HM.out,by simp;omega⟩,F,HF2⟩
  case done=>
   rintro Dd ys X hD hys ⟨hbm,⟨m,D,hM,hm⟩,F,hF⟩ hK
   have hOX:Boxed X (w2.heap.size+1+1) 25 (.slice (some ⟨w2.heap.size+1,0,none⟩) ln ln):=(hbm.2.2 _ (by omega) (by omega) (by omega)).trans hO0
   have co:=hOX.cell
   have zo:=hOX.lt
   have hw2X:ButM mb w2 X:=but2_butm hB0 hbm (by omega) (by omega)
   have hw1z:=hw1.size
   have hbW:Below W.heap.size W X:=hw2.trans (hw2X.1.mono (by omega))
   have he:(fun j=>filS (frB ps j) ys)=fun j=>ways26.filter (frB ps j):=by
    funext j
    unfold filS
    rw[hys]
   rw[he]at hF
   gi_wp2
   refine⟨by simp, .inl ⟨_,_,rfl,run_takeDeferred hK, ?_⟩⟩
   have hg:=grownBy_putObj' X Dd (.deferred none)
   have hc:∀r,some Dd=some r→∃o:Obj,X.heap[r]? =some o∧o.isCells=false:=fun r e=>by cases e;exact⟨_,hK,rfl⟩
   have hZ:=(hF.moved hg hc).eachW
   have hbZ:Below W.heap.size W (X.putObj Dd (.deferred none)):=hbW.grown hg hbW.size (fun k e=>by cases e;have:=hw2.size;omega)
   refine⟨.tuple #[.slice (some ⟨w2.heap.size+1,0,none⟩) ln ln, .int .i64 0],by simp[results,Tryz.results12,go_sem],hbZ,_,rfl,hZ⟩
  case stop=>
   rintro Dd c' pre X hD _ hx hK
   exact hx.elim
 ·have hA':(A !=0)=true:=by simpa using hA
  clear H12 HSc HGr Hlt HE
  gi_wp2
  exact⟨.tuple #[.slice none 0 0, .int .i64 A],by simp[results,Tryz.results12,go_sem],hw1, .inl ⟨hA,rfl⟩⟩
end
section
open Go.RowKit Go.Shelf Go.Lib
set_option maxRecDepth 100000
attribute [local go_sem] Ext.cell Ext.frozen
theorem cfree_eq {l:List (List (List Q4))} (h:eB l=0) {j:Nat} (hj:j<l.length):ways26.filter (frB (psB l) j)=rfreeL l j:=by
 unfold rfreeL
 refine List.filter_congr fun w hw=> ?_
 have hw0:w≠(0,0,0):=by
  intro e
  subst e
  revert hw
  decide
 have hg:=gph_list h hw0 hj
 have hlt:(eM (psB l) w).getD j 0<4096:=by
  have h3:j<(eM (psB l) w).length:=by rw[gphB_len];exact hj
  rw[show(eM (psB l) w).getD j 0=(eM (psB l) w)[j] by simp[List.getD,h3]]
  exact gphB_lt h w _ (qaB h3)
 have hn:=elems_nil hlt
 rw[show psB l=l.map (·.map bp)from rfl]at hn ⊢
 rw[hg]at hn
 unfold frB rfreeQ
 rw[Bool.eq_iff_iff,beq_iff_eq,beq_iff_eq,List.length_eq_zero_iff]
 exact hn.symm
def rfrs (l:List (List (List Q4))):List (List Q3):=(List.range l.length).map (rfreeL l)
theorem rfrs_len (l:List (List (List Q4))):(rfrs l).length=l.length:=by simp[rfrs]
def FreQ (l:List (List (List Q4))) (ae:Int) (W:World) (e:Ending) (w':World):Prop:=∃ca cn cc,e= .returned (.tuple #[.slice ca cn cc, .int .i64 ae])∧Below W.heap.size W w'∧(ae≠0→cn=0)∧(ae=0→cn=l.length∧Each w' (.slice ca cn cc) Q3s (rfrs l))
theorem freq {l:List (List (List Q4))} {W:World} {e:Ending} {w':World} (h:FreP l W e w'):FreQ l (eB l) W e w':=by
 obtain⟨hb,⟨h,rfl⟩|⟨h,v,rfl,ho⟩⟩:=h
 ·exact⟨none,0,0,rfl,hb,fun _=>rfl,fun h'=>absurd h' h⟩
 ·have e:(List.range l.length).map (fun j=>ways26.filter (frB (psB l) j))=rfrs l:=by
   unfold rfrs
   refine List.map_congr_left fun j hj=>cfree_eq h (by simpa using hj)
  rw[e]at ho
  obtain⟨a,n,c,rfl,hn,hx⟩:=ho
  exact⟨a,n,c,by rw[h],hb,fun h'=>absurd h h',fun _=>⟨by rw[←hn,rfrs_len],a,n,c,rfl,hn,hx⟩⟩
theorem AssemblyFree_any (l:List (List (List Q4))) (lv:Value) (W:World) (hl:l.length≤maxLen) (hL:∀s∈l,s.length≤maxLen∧∀c∈s,c.length≤maxLen) (h:SolsV W lv l) (ht:Lib.TabIs Tryz.prog W "internal/strconv.uint64pow10" .u64 Lib.pow10Tab∧TabAt 1 Lib.deBruijn64tab W):
  Calls Tryz.prog 3 #[lv] W (Ret W (.bool true)):=by
 have HA:=YJ (Gv W ht.1 ht.2)
 have HF:=fun W' (hb:Below W.heap.size W W')=>YJ (QD l lv W' hl (fun s hs=>(hL s hs).1) (SolsV.below h hb))
 have HC:=fun(hf:Ow l=true) W' (hb:Below W.heap.size W W')=>YJ (Py l lv W' (qaD (Ol hf).1 (by decide)) (fun s hs=>⟨qaD ((Ol hf).2 s hs).1 (by decide),fun c hc=>qaD (((Ol hf).2 s hs).2 c hc) (by decide)⟩) (SolsV.below h hb))
 have HM:=fun(hf:Ow l=true) v W' (hb:Below W.heap.size W W') (hv:SolsV W' v l)=>YJ ((aFree_any l v W' (fun s hs c hc=>qaD (((Ol hf).2 s hs).2 c hc) (by decide)) hv (ma ht.2 hb)).mono fun _ _ h=>freq h)
 have HR:=fun(hf:Ow l=true) W' (hb:Below W.heap.size W W')=>YJ (PP l lv W' (fun s hs c hc=>qaD (((Ol hf).2 s hs).2 c hc) (by decide)) (SolsV.below h hb))
 rw[←QG]at HR
 have HGs:=fun(hf:Ow l=true) (h0:eB l=0) W' (hb:Below W.heap.size W W')=>YJ (rGraphs_any l lv W' (qaD (Ol hf).1 (by decide)) (slim_fewL hf h0) (SolsV.below h hb))
 have HFr:=fun(hf:Ow l=true) i (hi:i<l.length) gv W' (hg:GsV W' gv (rgss l))=>YJ (rFree4_any l gv i W' (qaD (Ol hf).1 (by decide)) hi hg)
 have H12:=fun(h0:eB l=0)=>YJ (sq h0).1
 have HL26:Hid (∀i,(rfreeL l i).length≤26):=YJ (fun i=>by
  unfold rfreeL
  exact qaD (List.length_filter_le _ _) (by decide))
 have HrL:=YJ (rfrs_len l)
 have HrA:=fun i (h:i<(rfrs l).length)=>YJ (show(rfrs l)[i]=rfreeL l i from by simp[rfrs])
 have Hlv:Hid (∃a n c,lv= .slice a n c∧l.length=n):=YJ (by obtain⟨a,n,c,rfl,hn,_⟩:=h;exact⟨a,n,c,rfl,hn⟩)
 obtain⟨la,ln,lc,rfl,hln⟩:=Hlv.out
 have HlN:=YJ hln
 clear h hl hL ht Hlv hln
 generalize Ow l=fl at*
 generalize eB l=ae at*
 go_enter Tryz.func3,Tryz.ntmps3
 go_wp2_with fail
 refine(HA.out).mono ?_
 rintro e w1 ⟨rfl,hb1⟩
 clear HA
 go_wp2_with fail
 refine((HF _ hb1).out).mono ?_
 rintro e w2 ⟨rfl,hb2⟩
 have hw2:=fB hb1 hb2
 clear HF
 cases fl with
 |false=>
  clear HC HM HR HGs HFr H12 HL26
  go_wp2
  go_ret
  exact⟨ay (by simp),hw2⟩
 |true=>
  have HC2:=YJ (HC (by trivial) w2 hw2).out
  have HM':=fun v W' hb k1=>YJ (HM (by trivial) v W' hb k1).out
  have HR':=fun W' hb=>YJ (HR (by trivial) W' hb).out
  have HGs':=fun h0 W' hb=>YJ (HGs (by trivial) h0 W' hb).out
  have HFr':=fun i hi gv W' k1=>YJ (HFr (by trivial) i hi gv W' k1).out
  clear HC HM HR HGs HFr
  go_wp2_with fail
  refine(HC2.out).mono ?_
  rintro e w3 ⟨v3,rfl,hb3,hv3⟩
  have hw3:=fB hw2 hb3
  have HM3:=YJ (HM' _ w3 hw3 hv3).out
  obtain⟨v3a,v3n,v3c,rfl, -⟩:=hv3
  clear HC2 HM'
  go_wp2_with fail
  refine(HM3.out).mono ?_
  rintro e w4 ⟨ca,cn,cc,rfl,hb4,hcn,hce⟩
  have hw4:=fB hw3 hb4
  have Hcn:=YJ hcn
  have Hce:=YJ hce
  clear HM3 hcn hce
  go_wp2_with fail
  refine((HR' _ hw4).out).mono ?_
  rintro e w5 ⟨rfl,hb5⟩
  have hw5:=fB hw4 hb5
  clear HR'
  by_cases hae:ae=0
  ·subst hae
   obtain⟨hcl,hea⟩:=Hce.out (by trivial)
   have h12:=(H12 (by trivial)).out
   have hlN:=HlN.out
   have hcl2:cn=ln:=by rw[hcl,hlN]
   subst hcl2
   rw[hlN]at h12
   have HE5:=YJ (Each.below (E:=Q3s) (fun _ _ _ _ hb h=>Q3s.below h hb) hea hb5)
   have HG5:=YJ (HGs' (by trivial) w5 hw5).out
   clear HGs' Hce Hcn H12 hea hcl hlN
   go_wp2_with fail
   refine(HG5.out).mono ?_
   rintro e w6 ⟨gv,rfl,hb6,hg6⟩
   have hw6:=fB hw5 hb6
   have HG6:=YJ hg6.gs
   obtain⟨ga,gn,gc,rfl⟩:∃a n c,gv= .slice a n c:=by obtain⟨vs,h,_⟩:=hg6;obtain⟨a,c,h⟩:=aT h;exact⟨_,_,_,h⟩
   have HE6:=YJ (Each.below (E:=Q3s) (fun _ _ _ _ hb h=>Q3s.below h hb) HE5.out hb6)
   clear HG5 HE5 hg6
   go_wp2
   go_loopw [7] (fun x wr=>∃i:Nat,i≤cn∧x= .int .i64 i∧Below w6.heap.size w6 wr) (fun x _=>cn-(intOf x).toNat)
   case atStart=>exact⟨0,by omega,rfl,brf⟩
   case round=>
    obtain⟨i,hi,rfl,hb⟩:=hrel
    by_cases hlt:i<cn
    ·have g1:(i:Int)<(cn:Int):=by omega
     have g2:(0:Int)≤(i:Int):=by omega
     have hil:i<l.length:=by rw[HlN.out];exact hlt
     have hir:i<(rfrs l).length:=by rw[HrL.out];exact hil
     have HC:=YJ (HFr' i hil _ wr (GsV.below HG6.out hb)).out
     have hl26:=HL26.out i
     obtain⟨_,_,_,e0,hn0, -,hx0⟩:=HE6.out
     injection e0 with e1 e2 e3
     subst e1
     obtain⟨tb,off,rfl,hx1⟩:=hx0 (by omega)
     obtain⟨u,hu,hq⟩:=hx1 i hir
     rw[(HrA i hir).out]at hq
     have hu1:=ab hb hu
     have hqr:=Q3s.below hq hb
     clear hx0 hx1 e2 e3 hn0 hu hq HFr' HE6 HL26 HrA HrL
     generalize rfreeL l i=R at*
     obtain⟨a1,n1,c1,rfl,hn1, -,hx1⟩:=hqr
     have HX1:=YJ hx1
     have z0:=qaC wr _ hu1
     simp only at z0
     clear hx1
     obtain⟨wo,rfl⟩:∃wo:World,wo=wr:=⟨_,rfl⟩
     go_wp2_with fail
     refine(HC.out).mono ?_
     rintro e w9 ⟨v9,rfl,hb9,ho9⟩
     have hu9:=ab hb9 hu1
     have z9:=qaC w9 _ hu9
     simp only at z9
     have hq9:=q3s_own ho9
     obtain⟨a2,n2,c2,rfl,hn2, -,hx2⟩:=hq9
     have hnn:n1=n2:=by omega
     subst hnn
     have HX2:=YJ hx2
     clear hx2 ho9 HC z0 hu1
     rw[hn2]at hl26
     have HN:=YJ hn2
     clear hn2
     go_wp2
     go_loopw [9] (fun x wi=>∃k:Nat,k≤n1∧x= .int .i64 k∧Below w9.heap.size w9 wi) (fun x _=>n1-(intOf x).toNat)
     case atStart=>exact⟨0,by omega,rfl,brf⟩
     case round=>
      rename World=>wi
      obtain⟨k,hk,rfl,hbi⟩:=hrel
      by_cases hkl:k<n1
      ·have hL:=HN.out
       obtain⟨b,off1,rfl,hi1⟩:=HX1.out (by omega)
       obtain⟨b2,off2,rfl,hi2⟩:=HX2.out (by omega)
       obtain⟨c0,c1',c2'⟩:=((hi1.below hb9).below hbi) k (by omega)
       obtain⟨d0,d1,d2⟩:=(hi2.below hbi) k (by omega)
       have hu0:=ab hbi hu9
       generalize R[k]=q at*
       obtain⟨x0,x1,x2⟩:=q
       simp only at c0 c1' c2' d0 d1 d2
       have z1:=qaC wi _ c0
       have z2:=qaC wi _ d0
       have z3:=qaC wi _ hu0
       simp only at z1 z2 z3
       have q1:(k:Int)<(n1:Int):=by omega
       have q2:(0:Int)≤(k:Int):=by omega
       clear hi1 hi2 HX1 HX2 hL
       go_wp2
       refine wqf fun u=> ?_
       go_wp2
       go_roundw
       case rel=>exact⟨k+1,by omega,by go_num,fB hbi u.below⟩
       case measure=>first|(simp[intOf];done)|(simp[intOf];omega)
      ·obtain rfl:k=n1:=by omega
       clear HX1 HX2 HN
       go_wp2
       go_roundw
       case rel=>exact⟨i+1,by omega,by go_num,fB hb (fB hb9 hbi)⟩
       case measure=>first|(simp[intOf];done)|(simp[intOf];omega)
    ·have hw9:=fB hw6 hb
     obtain rfl:i=cn:=by omega
     clear HFr' HE6 HL26 HrA HrL HG6
     go_wp2
     go_ret
     exact⟨ay (by simp),hw9⟩
  ·have hae':(ae !=0)=true:=by simpa using hae
   obtain rfl:=Hcn.out hae
   clear HGs' HFr' H12 HL26 Hcn Hce
   go_wp2
   go_ret
   exact⟨ay (by simp),hw5⟩
end
end Go.Proofs.YtnpmkepfpekhfaaGreatDoor
