/- texts: DPM DPO DPS DPR GI GI2 DPB DPC DPE. -/
import Derived.Test.YtffbilcjhlncfaaGreatDoorDQS39
import Derived.Sort.LoopGhostIn
namespace Go.Proofs.YtffbilcjhlncfaaGreatDoor
set_option maxHeartbeats 8000000
set_option linter.all false
section
open Go.RowKit Go.Shelf Go.Lib
def mks (bs:List Nat):List Deferred:=bs.map fun D=>{target:= .collected D,args:=#[]}
def MkOK (B:Nat) (bs:List Nat) (w:World):Prop:=bs.Nodup∧∀D∈bs,B≤D∧w.heap[D]? =some (.deferred (some []))
theorem MkOK.nil (B:Nat) (w:World):MkOK B [] w:=⟨List.nodup_nil,fun D h=>by cases h⟩
theorem MkOK.kept {B:Nat} {bs:List Nat} {w w':World} (h:MkOK B bs w) (hk:∀D:Nat,w.heap[D]? =some (.deferred (some []))→w'.heap[D]? =w.heap[D]?):MkOK B bs w':=
 ⟨h.1,fun D hD=>⟨(h.2 D hD).1,(hk D (h.2 D hD).2).trans (h.2 D hD).2⟩⟩
theorem MkOK.below {B:Nat} {bs:List Nat} {w w':World} (h:MkOK B bs w) (hb:Below w.heap.size w w'):MkOK B bs w':=h.kept fun D hD=>hb.block _ (ah hD)
theorem MkOK.cons {B D:Nat} {bs:List Nat} {w w':World} (h:MkOK B bs w) (hk:∀D:Nat,w.heap[D]? =some (.deferred (some []))→w'.heap[D]? =w.heap[D]?) (hB:B≤D) (hw:w.heap.size≤D) (hD:w'.heap[D]? =some (.deferred (some []))):MkOK B (D::bs) w':=by
 have h2:=h.kept hk
 refine⟨List.nodup_cons.2 ⟨fun hm=> ?_,h.1⟩,fun E hE=> ?_⟩
 ·have:=ah (h.2 D hm).2
  omega
 ·rcases alsk.1 hE with rfl|hE
  ·exact⟨hB,hD⟩
  ·exact h2.2 E hE
theorem qgt {F:Fence} {n:Nat} {P:Program} {fn:Func} {tmps:Array Value} {R:Ending→World→Prop} {B:Nat}:∀(bs:List Nat) (w:World),MkOK B bs w→B≤w.heap.size→(∀w',Below B w w'→∃v,(results fn tmps).run P w'= .ok v w'∧R (.returned v) w')→LeavesInM F n P fn tmps R (mks bs) .returning w
 | [],w,_,hB,h=>h w ((Below.refl _ w).mono hB)
 |D::bs,w,hm,hB,h=>by
  obtain⟨hn,ha⟩:=hm
  obtain⟨hD,hw⟩:=ha D (by simp)
  rw[List.nodup_cons]at hn
  have hb:Below B w (w.putObj D (.deferred none)):=((Below.refl _ w).mono hB).grown (grownBy_putObj' w D (.deferred none)) hB (fun k e=>by cases e;exact hD)
  refine⟨by simp, .inl ⟨D,_,rfl,run_takeDeferred hw, ?_⟩⟩
  refine qgt bs _ ⟨hn.2,fun E hE=>⟨(ha E (by simp[hE])).1,(World.putObj_heap_other (fun e=>hn.1 (by rw[←e];exact hE))).trans (ha E (by simp[hE])).2⟩⟩ (qaD hB hb.size) fun w' hb'=>h w' (hb.trans hb')
theorem Bfs.redo {T:Nat→Nat→Prop} {full goal:Nat} {L:List Nat} {D:Nat→Option Nat} {k:Nat} {done done':Nat→Prop} (B:Bfs T full goal L D k done) (h2:∀(hk:k<L.length) x,done' x→done x∨¬T x L[k]):Bfs T full goal L D k done':=
 have hh:∀(hk:k<L.length) x,done' x→T x L[k]→∃b,D x=some b:=fun hk x hx t=>by
  rcases h2 hk x hx with h|h
  ·exact B.here hk x h t
  ·exact(h t).elim
 {B with here:=hh}
theorem qii:∀x,x<16→∀g,g<16→x≠0→(x-1)&&& g<x:=by decide+kernel
theorem qij:∀x,x<16→∀g,g<16→((x-1)&&& g)&&& g=(x-1)&&& g:=by decide+kernel
theorem qiq:∀g,g<16→∀x,x<16→∀h,h<16→(x&&& g==x&&h&&& g==h&&decide (h<x)&&decide ((x-1)&&& g<h))=false:=by decide+kernel
theorem qik (g:Nat) (hg:g<16) (x:Nat) (hx:x<16) (h:Nat) (hh:h<16) (h1:x&&& g=x) (h2:h&&& g=h) (h3:h<x):h≤(x-1)&&& g:=by
 have:=qiq g hg x hx h hh
 rw[h1,h2]at this
 simp[h3]at this
 exact this
theorem qiz:∀h,h<16→∀g,g<16→h&&& g=h→dN h g=0:=by decide+kernel
theorem qir:∀x,x<16→∀p,p<4→((x&&& 2 ^ p)=0↔x.testBit p=false):=by decide+kernel
theorem qhB (w:World) (g i:Nat) (u:Value):w.grownBy (w.setCell ⟨g,i,none⟩ u) (some g):=⟨rfl,rfl,rfl,(KeepsWalks.setCell w _ u).size,fun k _ hk=>qaH _ _ _ k (fun e=>hk (by rw[e]))⟩
theorem OwU.own {w:World} {B:Nat} {v:Value} {xs:List Value} (h:OwU w B v xs):∃r cs,v.ownBlock=some r∧B≤r∧w.heap[r]? =some (.cells cs 84 (0,0)):=by
 obtain⟨g,o,cap,cur,rfl,hb,hg,_⟩:=h
 exact⟨g,cur,rfl,hb,hg⟩
theorem OwU.below {w w':World} {B:Nat} {v:Value} {xs:List Value} (h:OwU w B v xs) (hb:Below w.heap.size w w'):OwU w' B v xs:=by
 obtain⟨r,cs,e,_⟩:=h.own
 exact h.kept (row:=none) ⟨hb.os,hb.tape,hb.output,hb.size,fun k hk _=>hb.block k hk⟩ (by rw[e];simp)
theorem OwD.cel {w:World} {b n g i:Nat} {K:Nat→Option Nat} {cs:Array Value} {T:TypeId} {u:Value} (h:OwD w b n K) (hg:w.heap[g]? =some (.cells cs T (0,0))):OwD (w.setCell ⟨g,i,none⟩ u) b n K:=by
 refine h.moved (qhB w g i u) (fun e=> ?_)
 obtain⟨o,ho,hc⟩:=h.obj
 cases e
 rw[hg]at ho
 cases ho
 cases hc
theorem qhi {w:World} {g g':Nat} {c c':Array Value} {T T':TypeId} (h:w.heap[g]? =some (.cells c T (0,0))) (h':w.heap[g']? =some (.cells c' T' (0,0))) (hT:T≠T'):g≠g':=fun e=>by
 subst e
 rw[h]at h'
 cases h'
 exact hT rfl
end
section
open Go.RowKit Go.Shelf Go.Lib
theorem qhY:∀(n:Nat) (L:List Nat),L.Nodup→(∀x∈L,x<n)→L.length≤n
 |0,L,_,h=>by
  cases L with
  |nil=>simp
  |cons a l=>exact absurd (h a (by simp)) (by omega)
 |n+1,L,hn,h=>by
  by_cases hm:n∈L
  ·have:=qhY n (L.erase n) (hn.erase n) (fun x hx=>by
    rw[hn.mem_erase_iff]at hx
    have:=h x hx.2
    have:=hx.1
    omega)
   rw[List.length_erase_of_mem hm]at this
   omega
  ·have:=qhY n L hn (fun x hx=>by
    have:=h x hx
    have:x≠n:=fun e=>hm (e▸hx)
    omega)
   omega
section
variable {Mb:Nat→Nat→Bool} {p full goal g n:Nat} {L:List Nat} {D:Nat→Option Nat} {k:Nat}
theorem qhT {x:Nat} (t:TS Mb p x g) (hg:g<16):x&&& g=x∧x<16∧x≠0∧x<g:=by
 obtain⟨h1,h2,h3,_⟩:=t
 have ha:x&&& g=x:=qgp fun i=>by
  rw[qgq]
  have:=dN_zero.1 h1 i
  cases hx:x.testBit i with
  |false=>rfl
  |true=>rw[this hx];rfl
 have hle:x≤g:=by
  rw[←ha]
  exact Nat.and_le_right
 refine⟨ha,by omega,fun e=> ?_,by omega⟩
 subst e
 simp at h3
theorem qib (B:Bfs (TS Mb p) full goal L D k (fun _=>False)) (hk:k<L.length) (hg:L[k]=g) (h16:g<16) (h0:g≠0):Bfs (TS Mb p) full goal L D k (fun x=>(g-1)&&& g<x):=
 B.redo fun hk x hx=> .inr fun t=>by
  rw[hg]at t
  obtain⟨h1,h2,h3,h4⟩:=qhT t h16
  have:=qik g h16 g h16 x h2 (by simp) h1 h4
  omega
theorem qhL (hg:L[k]? =some g) (h16:g<16) (hn:n<16) (hng:n&&& g=n):∀(hk:k<L.length) x,(n-1)&&& g<x→x=n∨n<x∨¬TS Mb p x L[k]:=fun hk x hx=>by
 by_cases h1:x=n
 ·exact .inl h1
 ·by_cases h2:n<x
  ·exact .inr (.inl h2)
  ·refine .inr (.inr fun t=> ?_)
   rw[List.getElem?_eq_getElem hk]at hg
   rw[qgb hg]at t
   obtain⟨a,b,c,d⟩:=qhT t h16
   have:=qik g h16 n hn x b hng a (by omega)
   omega
theorem qhF (B:Bfs (TS Mb p) full goal L D k (fun x=>n<x)) (hg:L[k]? =some g) (h16:g<16) (hn:n<16) (hng:n&&& g=n) (h1:(∃d,D n=some d)∨¬TS Mb p n g):Bfs (TS Mb p) full goal L D k (fun x=>(n-1)&&& g<x):=by
 obtain⟨hk,e⟩:=List.getElem?_eq_some_iff.1 hg
 exact B.known hk (h:=n) (by rw[e];exact h1) (fun x hx=>qhL hg h16 hn hng hk x hx)
theorem qis (B:Bfs (TS Mb p) full goal L D k (fun x=>n<x)) (hg:L[k]? =some g) (h16:g<16) (hn:n<16) (hng:n&&& g=n) {a:Nat} (ha:D g=some a) (hd:D n=none) (ht:TS Mb p n g):Bfs (TS Mb p) full goal (L++[n]) (fun x=>if x=n then some (a+1)else D x) k (fun x=>(n-1)&&& g<x):=by
 obtain⟨hk,e⟩:=List.getElem?_eq_some_iff.1 hg
 exact B.new hk (by rw[e];exact ha) hd (by rw[e];exact ht) (fun x hx=>qhL hg h16 hn hng hk x hx)
theorem qhM (B:Bfs (TS Mb p) full goal L D k (fun x=>0<x)) (hg:L[k]? =some g) (h16:g<16) (hne:g≠goal):Bfs (TS Mb p) full goal L D (k+1) (fun _=>False):=by
 obtain⟨hk,e⟩:=List.getElem?_eq_some_iff.1 hg
 refine B.next hk (fun x t=> ?_) (by rw[e];exact hne)
 rw[e]at t
 obtain⟨a,b,c,d⟩:=qhT t h16
 omega
theorem qhH (B:Bfs (TS Mb p) full goal L D k (fun _=>False)) (hg:L[k]? =some g):∃a,D g=some a:=
 (B.mem g).1 (List.mem_of_getElem? hg)
end
theorem qiD {ps:List (List Bod)} {p n g:Nat} (hn:n<16) (hg:g<16) (hng:n&&& g=n) (hlt:n<g) (hb:n.testBit p=true) (h:∃v∈ways26,XM (eM ps v) g n=true):TS (mvA ps) p n g:=
 ⟨qiz n hn g hg hng,by omega,hb,by
  obtain⟨v,hv,e⟩:=h
  exact ultj.2 ⟨v,hv,e⟩⟩
theorem qiE {ps:List (List Bod)} {p n g:Nat} (h:∀v∈ways26,XM (eM ps v) g n=false):¬TS (mvA ps) p n g:=fun t=>by
 obtain⟨v,hv,e⟩:=ultj.1 t.2.2.2
 rw[h v hv]at e
 cases e
theorem qiA {Mb:Nat→Nat→Bool} {p n g:Nat} (h:n.testBit p=false):¬TS Mb p n g:=fun t=>by
 have:=t.2.2.1
 rw[h]at this
 cases this
end
section
open Go.RowKit Go.Shelf Go.Lib
structure DpS (ps:List (List Bod)) (sb mb db b8 b9:Nat) (w2:World) (M n:Nat) (v:Value) (xs:List Value) (D:Nat→Option Nat) (X:World):Prop where
 bm:ButM mb w2 X
 c7:X.heap[w2.heap.size]? =some (.cells #[.pointer (some ⟨sb,0,none⟩)] 81 (0,0))
 c8:X.heap[b8]? =some (.cells #[.map (some db)] 86 (0,0))
 c9:X.heap[b9]? =some (.cells #[v] 87 (0,0))
 od:OwD X db n D
 ou:OwU X w2.heap.size v xs
 ms:∃m Dm r,m≤M∧v.ownBlock=some r∧MapS X mb m Dm (eM ps)∧MapAv Dm r
 hmb:mb<w2.heap.size
 hdb:w2.heap.size≤db
 h8:w2.heap.size≤b8
 h9:w2.heap.size≤b9
section
variable {ps:List (List Bod)} {sb mb db b8 b9:Nat} {w2:World} {M n:Nat} {v:Value} {xs:List Value} {D:Nat→Option Nat} {X Y:World}
theorem Hj {X:World} {g j:Nat} {cs:Array Value} {T:TypeId} {o:Obj} (h:X.heap[g]? =some (.cells cs T (0,0))) (ho:X.heap[j]? =some o) (hc:o.isCells=false):g≠j:=fun e=>by
 subst e
 rw[h]at ho
 cases ho
 cases hc
theorem DpS.le (h:DpS ps sb mb db b8 b9 w2 M n v xs D X):w2.heap.size≤X.heap.size:=h.bm.2.1
theorem DpS.below (h:DpS ps sb mb db b8 b9 w2 M n v xs D X) (hb:Below X.heap.size X Y):DpS ps sb mb db b8 b9 w2 M n v xs D Y where
 bm:=h.bm.trans (.of_below (by have:=h.le;have:=h.hmb;omega) hb)
 c7:=(hb.block _ (ah h.c7)).trans h.c7
 c8:=(hb.block _ (ah h.c8)).trans h.c8
 c9:=(hb.block _ (ah h.c9)).trans h.c9
 od:=h.od.below hb
 ou:=h.ou.below hb
 ms:=by
  obtain⟨m,Dm,r,a,b,c,d⟩:=h.ms
  exact⟨m,Dm,r,a,b,c.kept hb,d⟩
 hmb:=h.hmb
 hdb:=h.hdb
 h8:=h.h8
 h9:=h.h9
theorem DpS.grownM (h:DpS ps sb mb db b8 b9 w2 M n v xs D X) {row:Option Nat} (hg:X.grownBy Y row) (hr:∀j,row=some j→w2.heap.size≤j):ButM mb w2 Y:=
 ⟨h.bm.1.grown hg (by have:=h.le;have:=h.hmb;omega) (fun k e=>by have:=hr k e;have:=h.hmb;omega),qaD h.le hg.size,fun k hk hn=>(hg.block k (qaG hk h.le) (fun e=>by have:=hr k e.symm;omega)).trans (h.bm.2.2 k hk hn)⟩
theorem DpS.mrow (h:DpS ps sb mb db b8 b9 w2 M n v xs D X):∃cs r,v.ownBlock=some r∧w2.heap.size≤r∧X.heap[r]? =some (.cells cs 84 (0,0)):=by
 obtain⟨r,cs,e,hr,hx⟩:=h.ou.own
 exact⟨cs,r,e,hr,hx⟩
theorem DpS.walks (h:DpS ps sb mb db b8 b9 w2 M n v xs D X) {row:Option Nat} (hg:X.grownBy Y row) (hr:∀j,row=some j→w2.heap.size≤j∧j≠db∧∃o:Obj,X.heap[j]? =some o∧o.isCells=false):DpS ps sb mb db b8 b9 w2 M n v xs D Y:=
 have hc:∀{g:Nat} {cs:Array Value} {T:TypeId},X.heap[g]? =some (.cells cs T (0,0))→row≠some g:=fun hg' e=>by
  obtain⟨_,_,o,ho,hc⟩:=hr _ e
  exact Hj hg' ho hc rfl
 have hk:∀{g:Nat} {cs:Array Value} {T:TypeId},X.heap[g]? =some (.cells cs T (0,0))→Y.heap[g]? =some (.cells cs T (0,0)):=fun hg'=>(hg.block _ (ah hg') (fun e=>hc hg' e.symm)).trans hg'
 {bm:=h.grownM hg fun j e=>(hr j e).1
  c7:=hk h.c7
  c8:=hk h.c8
  c9:=hk h.c9
  od:=h.od.moved hg fun e=>(hr _ e).2.1 rfl
  ou:=h.ou.kept hg fun e=>by
   obtain⟨cs,r,e1,_,e2⟩:=h.mrow
   exact hc e2 (by rw[←e,e1])
  ms:=by
   obtain⟨m,Dm,r,a,b,c,d⟩:=h.ms
   exact⟨m,Dm,r,a,b,c.moved hg (fun e=>by have:=(hr _ e).1;have:=h.hmb;omega) (fun j e=>(hr j e).2.2),d⟩
  hmb:=h.hmb
  hdb:=h.hdb
  h8:=h.h8
  h9:=h.h9}
theorem DpS.graph (h:DpS ps sb mb db b8 b9 w2 M n v xs D X) {m m' r:Nat} {Dm Dm':DataW Value} (hm:m≤M) (hr:v.ownBlock=some r) (hA:MapAv Dm r) (hb:Below mb X Y) (hs:X.heap.size≤Y.heap.size) (hk:∀k,k<X.heap.size→k≠mb→Y.heap[k]? =X.heap[k]?)
  (hM:MapS Y mb m' Dm' (eM ps)) (hm':m'≤m+2) (hA':∀r,r<X.heap.size→MapAv Dm r→MapAv Dm' r):DpS ps sb mb db b8 b9 w2 (M+2) n v xs D Y:=
 have hc:∀{g:Nat} {cs:Array Value} {T:TypeId},w2.heap.size≤g→X.heap[g]? =some (.cells cs T (0,0))→Y.heap[g]? =some (.cells cs T (0,0)):=fun hg' hx=>(hk _ (ah hx) (by have:=h.hmb;omega)).trans hx
 {bm:=h.bm.trans ⟨hb,hs,hk⟩
  c7:=hc (qaA _) h.c7
  c8:=hc h.h8 h.c8
  c9:=hc h.h9 h.c9
  od:=h.od.butm ⟨hb,hs,hk⟩ (by have:=h.hmb;have:=h.hdb;omega)
  ou:=h.ou.kept (qeY ⟨hb,hs,hk⟩) (fun e=>by
   obtain⟨cs,r',e1,h1,_⟩:=h.mrow
   rw[e1]at e
   have:=h.hmb
   injection e with e
   omega)
  ms:=by
   obtain⟨cs,r',e1,h1,h2⟩:=h.mrow
   rw[hr]at e1
   cases e1
   exact⟨m',Dm',r,by omega,hr,hM,hA' r (ah h2) hA⟩
  hmb:=h.hmb
  hdb:=h.hdb
  h8:=h.h8
  h9:=h.h9}
theorem DpS.put (h:DpS ps sb mb db b8 b9 w2 M n v xs D X) (hg:X.grownBy Y (some db)) {n':Nat} {D':Nat→Option Nat} (ho:OwD Y db n' D'):DpS ps sb mb db b8 b9 w2 M n' v xs D' Y:=
 have hd:=h.od.obj
 have hc:∀{g:Nat} {cs:Array Value} {T:TypeId},X.heap[g]? =some (.cells cs T (0,0))→g≠db:=fun hg'=>by
  obtain⟨o,ho,hc⟩:=hd
  exact Hj hg' ho hc
 have hk:∀{g:Nat} {cs:Array Value} {T:TypeId},X.heap[g]? =some (.cells cs T (0,0))→Y.heap[g]? =some (.cells cs T (0,0)):=fun hg'=>(hg.block _ (ah hg') (fun e=>hc hg' (qgb e))).trans hg'
 {bm:=h.grownM hg fun j e=>by cases e;exact h.hdb
  c7:=hk h.c7
  c8:=hk h.c8
  c9:=hk h.c9
  od:=ho
  ou:=h.ou.kept hg fun e=>by
   obtain⟨cs,r,e1,_,e2⟩:=h.mrow
   rw[e1]at e
   exact hc e2 (qgb e)
  ms:=by
   obtain⟨m,Dm,r,a,b,c,d⟩:=h.ms
   exact⟨m,Dm,r,a,b,c.moved hg (fun e=>by have:=h.hdb;have:=h.hmb;injection e;omega) (fun j e=>by cases e;exact hd),d⟩
  hmb:=h.hmb
  hdb:=h.hdb
  h8:=h.h8
  h9:=h.h9}
theorem DpS.app (h:DpS ps sb mb db b8 b9 w2 M n v xs D X) (hg:X.grownBy Y v.ownBlock) {v':Value} {xs':List Value} (ho:OwU Y w2.heap.size v' xs') (hv:v'.ownBlock=v.ownBlock∨∃r,v'.ownBlock=some r∧X.heap.size≤r):DpS ps sb mb db b8 b9 w2 M n v' xs' D (Y.setCell ⟨b9,0,none⟩ v'):=by
 obtain⟨cs,r,hr,hrz,hrx⟩:=h.mrow
 rw[hr]at hg hv
 have hk:∀{g:Nat} {cs:Array Value} {T:TypeId},84≠T→X.heap[g]? =some (.cells cs T (0,0))→Y.heap[g]? =some (.cells cs T (0,0)):=fun hT hg'=>(hg.block _ (ah hg') (fun e=>qhi hrx hg' hT (qgb e).symm)).trans hg'
 have k9:=hk (by decide) h.c9
 have hgs:∀{g:Nat} {cs:Array Value} {T:TypeId},T≠87→Y.heap[g]? =some (.cells cs T (0,0))→(Y.setCell ⟨b9,0,none⟩ v').heap[g]? =some (.cells cs T (0,0)):=fun hT hx=>(qaH _ _ _ _ (qhi hx k9 hT)).trans hx
 have hod:=h.od.moved hg (fun e=>by
  obtain⟨o,ho,hc⟩:=h.od.obj
  exact Hj hrx ho hc (qgb e))
 exact
 {bm:=(h.grownM hg fun j e=>by cases e;exact hrz).set h.h9 h.hmb _
  c7:=hgs (by decide) (hk (by decide) h.c7)
  c8:=hgs (by decide) (hk (by decide) h.c8)
  c9:=one_setCell k9
  od:=hod.cel k9
  ou:=ho.kept (qhB Y b9 0 v') (fun e=>by
   obtain⟨r',cs',e1,_,e2⟩:=ho.own
   rw[e1]at e
   exact qhi e2 k9 (by decide) (qgb e))
  ms:=by
   obtain⟨m,Dm,r',a,b,c,d⟩:=h.ms
   rw[hr]at b
   cases b
   obtain⟨m1,h1⟩:∃r1,v'.ownBlock=some r1∧MapAv Dm r1:=by
    rcases hv with e|⟨r1,e,hr1⟩
    ·exact⟨r,e,d⟩
    ·exact⟨r1,e,MapAv.fresh c hr1⟩
   exact⟨m,Dm,m1,a,h1.1,NU (c.away d hg rfl (by have:=h.hmb;omega)) k9 (by decide),h1.2⟩
  hmb:=h.hmb
  hdb:=h.hdb
  h8:=h.h8
  h9:=h.h9}
theorem DpS.tail (h:DpS ps sb mb db b8 b9 w2 M n v xs D X) (hb:Below X.heap.size X Y) {v':Value} {xs':List Value} {b9':Nat} (h9:w2.heap.size≤b9') (hc:Y.heap[b9']? =some (.cells #[v'] 87 (0,0))) (ho:OwU Y w2.heap.size v' xs') (hv:v'.ownBlock=v.ownBlock):DpS ps sb mb db b8 b9' w2 M n v' xs' D Y:=
 have k:=h.below hb
 {bm:=k.bm
  c7:=k.c7
  c8:=k.c8
  c9:=hc
  od:=k.od
  ou:=ho
  ms:=by rw[hv];exact k.ms
  hmb:=h.hmb
  hdb:=h.hdb
  h8:=h.h8
  h9:=h9}
theorem DpS.more (h:DpS ps sb mb db b8 b9 w2 M n v xs D X) {M':Nat} (hM:M≤M'):DpS ps sb mb db b8 b9 w2 M' n v xs D X:=
 have hm:∃m Dm r,m≤M'∧v.ownBlock=some r∧MapS X mb m Dm (eM ps)∧MapAv Dm r:=by
  obtain⟨m,Dm,r,a,b,c,d⟩:=h.ms
  exact⟨m,Dm,r,by omega,b,c,d⟩
 {h with ms:=hm}
end
end
section
open Go.RowKit Go.Shelf Go.Lib
def DpF9 (lv:Value) (p z b8 b9:Nat) (ds:List Deferred) (a:Act):Prop:=∃u10 u11 u12 u13 u14 u15 u16 u17 u18 u19 u20 u21 u22 u23 u24 u25 u26 u27 u28 u29 u30 u31 u32 u33 u34 u35 u36 u37 u38 u39 u40 u41 u42 u43 u44 u45 u46 u47 u48 u49 u50 u51 u52 u53 u54 u55 u56 u57 u58 u59 u60 u61 u62 u63 u64 u65 u66 u67 u68 u69 u70 u71 u72 u73 u74 u75 u76 u77 u78 u79 u80 u81 u82 u83 u84 u85 u86 u87 u88 u89 u90 u91 u92 u93 u94 u95 u96 u97 u98 u99 u100 u101 u102,a={tmps:=#[lv, .int .i64 p,undef,undef, .int .i64 0, .int .i64 0, .int .i64 0, .pointer (some ⟨z,0,none⟩), .pointer (some ⟨b8,0,none⟩), .pointer (some ⟨b9,0,none⟩),u10,u11,u12,u13,u14,u15,u16,u17,u18,u19,u20,u21,u22,u23,u24,u25,u26,u27,u28,u29,u30,u31,u32,u33,u34,u35,u36,u37,u38,u39,u40,u41,u42,u43,u44,u45,u46,u47,u48,u49,u50,u51,u52,u53,u54,u55,u56,u57,u58,u59,u60,u61,u62,u63,u64,u65,u66,u67,u68,u69,u70,u71,u72,u73,u74,u75,u76,u77,u78,u79,u80,u81,u82,u83,u84,u85,u86,u87,u88,u89,u90,u91,u92,u93,u94,u95,u96,u97,u98,u99,u100,u101,u102],defers:=ds}
def DpF11 (lv:Value) (p z b8 b9 b10 b11:Nat) (ds:List Deferred) (a:Act):Prop:=∃u12 u13 u14 u15 u16 u17 u18 u19 u20 u21 u22 u23 u24 u25 u26 u27 u28 u29 u30 u31 u32 u33 u34 u35 u36 u37 u38 u39 u40 u41 u42 u43 u44 u45 u46 u47 u48 u49 u50 u51 u52 u53 u54 u55 u56 u57 u58 u59 u60 u61 u62 u63 u64 u65 u66 u67 u68 u69 u70 u71 u72 u73 u74 u75 u76 u77 u78 u79 u80 u81 u82 u83 u84 u85 u86 u87 u88 u89 u90 u91 u92 u93 u94 u95 u96 u97 u98 u99 u100 u101 u102,a={tmps:=#[lv, .int .i64 p,undef,undef, .int .i64 0, .int .i64 0, .int .i64 0, .pointer (some ⟨z,0,none⟩), .pointer (some ⟨b8,0,none⟩), .pointer (some ⟨b9,0,none⟩), .pointer (some ⟨b10,0,none⟩), .pointer (some ⟨b11,0,none⟩),u12,u13,u14,u15,u16,u17,u18,u19,u20,u21,u22,u23,u24,u25,u26,u27,u28,u29,u30,u31,u32,u33,u34,u35,u36,u37,u38,u39,u40,u41,u42,u43,u44,u45,u46,u47,u48,u49,u50,u51,u52,u53,u54,u55,u56,u57,u58,u59,u60,u61,u62,u63,u64,u65,u66,u67,u68,u69,u70,u71,u72,u73,u74,u75,u76,u77,u78,u79,u80,u81,u82,u83,u84,u85,u86,u87,u88,u89,u90,u91,u92,u93,u94,u95,u96,u97,u98,u99,u100,u101,u102],defers:=ds}
def DpF14 (lv:Value) (p z b8 b9 b10 b11 b14:Nat) (ds:List Deferred) (a:Act):Prop:=∃u12 u13 u15 u16 u17 u18 u19 u20 u21 u22 u23 u24 u25 u26 u27 u28 u29 u30 u31 u32 u33 u34 u35 u36 u37 u38 u39 u40 u41 u42 u43 u44 u45 u46 u47 u48 u49 u50 u51 u52 u53 u54 u55 u56 u57 u58 u59 u60 u61 u62 u63 u64 u65 u66 u67 u68 u69 u70 u71 u72 u73 u74 u75 u76 u77 u78 u79 u80 u81 u82 u83 u84 u85 u86 u87 u88 u89 u90 u91 u92 u93 u94 u95 u96 u97 u98 u99 u100 u101 u102,a={tmps:=#[lv, .int .i64 p,undef,undef, .int .i64 0, .int .i64 0, .int .i64 0, .pointer (some ⟨z,0,none⟩), .pointer (some ⟨b8,0,none⟩), .pointer (some ⟨b9,0,none⟩), .pointer (some ⟨b10,0,none⟩), .pointer (some ⟨b11,0,none⟩),u12,u13, .pointer (some ⟨b14,0,none⟩),u15,u16,u17,u18,u19,u20,u21,u22,u23,u24,u25,u26,u27,u28,u29,u30,u31,u32,u33,u34,u35,u36,u37,u38,u39,u40,u41,u42,u43,u44,u45,u46,u47,u48,u49,u50,u51,u52,u53,u54,u55,u56,u57,u58,u59,u60,u61,u62,u63,u64,u65,u66,u67,u68,u69,u70,u71,u72,u73,u74,u75,u76,u77,u78,u79,u80,u81,u82,u83,u84,u85,u86,u87,u88,u89,u90,u91,u92,u93,u94,u95,u96,u97,u98,u99,u100,u101,u102],defers:=ds}
def qiF (ps:List (List Bod)) (lv:Value) (p FU sb mb db b8:Nat) (w2:World) (n:Nat) (a:Act) (X:World):Prop:=∃bs k b9 v L D,n+k=17∧DpS ps sb mb db b8 b9 w2 (1000*k) L.length v ((L.drop k).map uV) D X∧MkOK w2.heap.size bs X∧Bfs (TS (mvA ps) p) FU (2 ^ p) L D k (fun _=>False)∧(∀x∈L,x≤FU∧x≠0)∧DpF9 lv p w2.heap.size b8 b9 (mks bs) a
structure DpI (ps:List (List Bod)) (p FU sb mb db b8 b9 b10 b11:Nat) (w2:World) (k g n M:Nat) (v:Value) (L:List Nat) (D:Nat→Option Nat) (done:Nat→Prop) (X:World):Prop where
 s:DpS ps sb mb db b8 b9 w2 M L.length v ((L.drop k).map uV) D X
 c10:X.heap[b10]? =some (.cells #[uV g] 84 (0,0))
 c11:X.heap[b11]? =some (.cells #[uV n] 84 (0,0))
 n10:v.ownBlock≠some b10
 n11:v.ownBlock≠some b11
 h10:w2.heap.size≤b10
 h11:w2.heap.size≤b11
 B:Bfs (TS (mvA ps) p) FU (2 ^ p) L D k done
 hL:∀x∈L,x≤FU∧x≠0
 hk:k<L.length
 hg:L[k]? =some g
def qiG (ps:List (List Bod)) (lv:Value) (p FU sb mb db b8 b9 b10:Nat) (w2:World) (k g:Nat) (n:Nat) (a:Act) (X:World):Prop:=∃bs b11 v L D,DpI ps p FU sb mb db b8 b9 b10 b11 w2 k g n (1000*k+60*(16-n)) v L D (fun x=>n<x) X∧MkOK w2.heap.size bs X∧n<g∧n&&& g=n∧DpF11 lv p w2.heap.size b8 b9 b10 b11 (mks bs) a
theorem DpF9.elim {lv:Value} {p z b8 b9:Nat} {ds:List Deferred} {a:Act} {C:Prop} (h:DpF9 lv p z b8 b9 ds a) (f:∀u10 u11 u12 u13 u14 u15 u16 u17 u18 u19 u20 u21 u22 u23 u24 u25 u26 u27 u28 u29 u30 u31 u32 u33 u34 u35 u36 u37 u38 u39 u40 u41 u42 u43 u44 u45 u46 u47 u48 u49 u50 u51 u52 u53 u54 u55 u56 u57 u58 u59 u60 u61 u62 u63 u64 u65 u66 u67 u68 u69 u70 u71 u72 u73 u74 u75 u76 u77 u78 u79 u80 u81 u82 u83 u84 u85 u86 u87 u88 u89 u90 u91 u92 u93 u94 u95 u96 u97 u98 u99 u100 u101 u102,a={tmps:=#[lv, .int .i64 p,undef,undef, .int .i64 0, .int .i64 0, .int .i64 0, .pointer (some ⟨z,0,none⟩), .pointer (some ⟨b8,0,none⟩), .pointer (some ⟨b9,0,none⟩),u10,u11,u12,u13,u14,u15,u16,u17,u18,u19,u20,u21,u22,u23,u24,u25,u26,u27,u28,u29,u30,u31,u32,u33,u34,u35,u36,u37,u38,u39,u40,u41,u42,u43,u44,u45,u46,u47,u48,u49,u50,u51,u52,u53,u54,u55,u56,u57,u58,u59,u60,u61,u62,u63,u64,u65,u66,u67,u68,u69,u70,u71,u72,u73,u74,u75,u76,u77,u78,u79,u80,u81,u82,u83,u84,u85,u86,u87,u88,u89,u90,u91,u92,u93,u94,u95,u96,u97,u98,u99,u100,u101,u102],defers:=ds}→C):C:=by
 unfold DpF9 at h
 obtain⟨u10,h⟩:=h
 obtain⟨u11,h⟩:=h
 obtain⟨u12,h⟩:=h
 obtain⟨u13,h⟩:=h
 obtain⟨u14,h⟩:=h
 obtain⟨u15,h⟩:=h
 obtain⟨u16,h⟩:=h
 obtain⟨u17,h⟩:=h
 obtain⟨u18,h⟩:=h
 obtain⟨u19,h⟩:=h
 obtain⟨u20,h⟩:=h
 obtain⟨u21,h⟩:=h
 obtain⟨u22,h⟩:=h
 obtain⟨u23,h⟩:=h
 obtain⟨u24,h⟩:=h
 obtain⟨u25,h⟩:=h
 obtain⟨u26,h⟩:=h
 obtain⟨u27,h⟩:=h
 obtain⟨u28,h⟩:=h
 obtain⟨u29,h⟩:=h
 obtain⟨u30,h⟩:=h
 obtain⟨u31,h⟩:=h
 obtain⟨u32,h⟩:=h
 obtain⟨u33,h⟩:=h
 obtain⟨u34,h⟩:=h
 obtain⟨u35,h⟩:=h
 obtain⟨u36,h⟩:=h
 obtain⟨u37,h⟩:=h
 obtain⟨u38,h⟩:=h
 obtain⟨u39,h⟩:=h
 obtain⟨u40,h⟩:=h
 obtain⟨u41,h⟩:=h
 obtain⟨u42,h⟩:=h
 obtain⟨u43,h⟩:=h
 obtain⟨u44,h⟩:=h
 obtain⟨u45,h⟩:=h
 obtain⟨u46,h⟩:=h
 obtain⟨u47,h⟩:=h
 obtain⟨u48,h⟩:=h
 obtain⟨u49,h⟩:=h
 obtain⟨u50,h⟩:=h
 obtain⟨u51,h⟩:=h
 obtain⟨u52,h⟩:=h
 obtain⟨u53,h⟩:=h
 obtain⟨u54,h⟩:=h
 obtain⟨u55,h⟩:=h
 obtain⟨u56,h⟩:=h
 obtain⟨u57,h⟩:=h
 obtain⟨u58,h⟩:=h
 obtain⟨u59,h⟩:=h
 obtain⟨u60,h⟩:=h
 obtain⟨u61,h⟩:=h
 obtain⟨u62,h⟩:=h
 obtain⟨u63,h⟩:=h
 obtain⟨u64,h⟩:=h
 obtain⟨u65,h⟩:=h
 obtain⟨u66,h⟩:=h
 obtain⟨u67,h⟩:=h
 obtain⟨u68,h⟩:=h
 obtain⟨u69,h⟩:=h
 obtain⟨u70,h⟩:=h
 obtain⟨u71,h⟩:=h
 obtain⟨u72,h⟩:=h
 obtain⟨u73,h⟩:=h
 obtain⟨u74,h⟩:=h
 obtain⟨u75,h⟩:=h
 obtain⟨u76,h⟩:=h
 obtain⟨u77,h⟩:=h
 obtain⟨u78,h⟩:=h
 obtain⟨u79,h⟩:=h
 obtain⟨u80,h⟩:=h
 obtain⟨u81,h⟩:=h
 obtain⟨u82,h⟩:=h
 obtain⟨u83,h⟩:=h
 obtain⟨u84,h⟩:=h
 obtain⟨u85,h⟩:=h
 obtain⟨u86,h⟩:=h
 obtain⟨u87,h⟩:=h
 obtain⟨u88,h⟩:=h
 obtain⟨u89,h⟩:=h
 obtain⟨u90,h⟩:=h
 obtain⟨u91,h⟩:=h
 obtain⟨u92,h⟩:=h
 obtain⟨u93,h⟩:=h
 obtain⟨u94,h⟩:=h
 obtain⟨u95,h⟩:=h
 obtain⟨u96,h⟩:=h
 obtain⟨u97,h⟩:=h
 obtain⟨u98,h⟩:=h
 obtain⟨u99,h⟩:=h
 obtain⟨u100,h⟩:=h
 obtain⟨u101,h⟩:=h
 obtain⟨u102,h⟩:=h
 exact f _ _ _ _ _ _ _ _ _ _ _ _ _ _ _ _ _ _ _ _ _ _ _ _ _ _ _ _ _ _ _ _ _ _ _ _ _ _ _ _ _ _ _ _ _ _ _ _ _ _ _ _ _ _ _ _ _ _ _ _ _ _ _ _ _ _ _ _ _ _ _ _ _ _ _ _ _ _ _ _ _ _ _ _ _ _ _ _ _ _ _ _ _ h
theorem DpF11.elim {lv:Value} {p z b8 b9 b10 b11:Nat} {ds:List Deferred} {a:Act} {C:Prop} (h:DpF11 lv p z b8 b9 b10 b11 ds a) (f:∀u12 u13 u14 u15 u16 u17 u18 u19 u20 u21 u22 u23 u24 u25 u26 u27 u28 u29 u30 u31 u32 u33 u34 u35 u36 u37 u38 u39 u40 u41 u42 u43 u44 u45 u46 u47 u48 u49 u50 u51 u52 u53 u54 u55 u56 u57 u58 u59 u60 u61 u62 u63 u64 u65 u66 u67 u68 u69 u70 u71 u72 u73 u74 u75 u76 u77 u78 u79 u80 u81 u82 u83 u84 u85 u86 u87 u88 u89 u90 u91 u92 u93 u94 u95 u96 u97 u98 u99 u100 u101 u102,a={tmps:=#[lv, .int .i64 p,undef,undef, .int .i64 0, .int .i64 0, .int .i64 0, .pointer (some ⟨z,0,none⟩), .pointer (some ⟨b8,0,none⟩), .pointer (some ⟨b9,0,none⟩), .pointer (some ⟨b10,0,none⟩), .pointer (some ⟨b11,0,none⟩),u12,u13,u14,u15,u16,u17,u18,u19,u20,u21,u22,u23,u24,u25,u26,u27,u28,u29,u30,u31,u32,u33,u34,u35,u36,u37,u38,u39,u40,u41,u42,u43,u44,u45,u46,u47,u48,u49,u50,u51,u52,u53,u54,u55,u56,u57,u58,u59,u60,u61,u62,u63,u64,u65,u66,u67,u68,u69,u70,u71,u72,u73,u74,u75,u76,u77,u78,u79,u80,u81,u82,u83,u84,u85,u86,u87,u88,u89,u90,u91,u92,u93,u94,u95,u96,u97,u98,u99,u100,u101,u102],defers:=ds}→C):C:=by
 unfold DpF11 at h
 obtain⟨u12,h⟩:=h
 obtain⟨u13,h⟩:=h
 obtain⟨u14,h⟩:=h
 obtain⟨u15,h⟩:=h
 obtain⟨u16,h⟩:=h
 obtain⟨u17,h⟩:=h
 obtain⟨u18,h⟩:=h
 obtain⟨u19,h⟩:=h
 obtain⟨u20,h⟩:=h
 obtain⟨u21,h⟩:=h
 obtain⟨u22,h⟩:=h
 obtain⟨u23,h⟩:=h
 obtain⟨u24,h⟩:=h
 obtain⟨u25,h⟩:=h
 obtain⟨u26,h⟩:=h
 obtain⟨u27,h⟩:=h
 obtain⟨u28,h⟩:=h
 obtain⟨u29,h⟩:=h
 obtain⟨u30,h⟩:=h
 obtain⟨u31,h⟩:=h
 obtain⟨u32,h⟩:=h
 obtain⟨u33,h⟩:=h
 obtain⟨u34,h⟩:=h
 obtain⟨u35,h⟩:=h
 obtain⟨u36,h⟩:=h
 obtain⟨u37,h⟩:=h
 obtain⟨u38,h⟩:=h
 obtain⟨u39,h⟩:=h
 obtain⟨u40,h⟩:=h
 obtain⟨u41,h⟩:=h
 obtain⟨u42,h⟩:=h
 obtain⟨u43,h⟩:=h
 obtain⟨u44,h⟩:=h
 obtain⟨u45,h⟩:=h
 obtain⟨u46,h⟩:=h
 obtain⟨u47,h⟩:=h
 obtain⟨u48,h⟩:=h
 obtain⟨u49,h⟩:=h
 obtain⟨u50,h⟩:=h
 obtain⟨u51,h⟩:=h
 obtain⟨u52,h⟩:=h
 obtain⟨u53,h⟩:=h
 obtain⟨u54,h⟩:=h
 obtain⟨u55,h⟩:=h
 obtain⟨u56,h⟩:=h
 obtain⟨u57,h⟩:=h
 obtain⟨u58,h⟩:=h
 obtain⟨u59,h⟩:=h
 obtain⟨u60,h⟩:=h
 obtain⟨u61,h⟩:=h
 obtain⟨u62,h⟩:=h
 obtain⟨u63,h⟩:=h
 obtain⟨u64,h⟩:=h
 obtain⟨u65,h⟩:=h
 obtain⟨u66,h⟩:=h
 obtain⟨u67,h⟩:=h
 obtain⟨u68,h⟩:=h
 obtain⟨u69,h⟩:=h
 obtain⟨u70,h⟩:=h
 obtain⟨u71,h⟩:=h
 obtain⟨u72,h⟩:=h
 obtain⟨u73,h⟩:=h
 obtain⟨u74,h⟩:=h
 obtain⟨u75,h⟩:=h
 obtain⟨u76,h⟩:=h
 obtain⟨u77,h⟩:=h
 obtain⟨u78,h⟩:=h
 obtain⟨u79,h⟩:=h
 obtain⟨u80,h⟩:=h
 obtain⟨u81,h⟩:=h
 obtain⟨u82,h⟩:=h
 obtain⟨u83,h⟩:=h
 obtain⟨u84,h⟩:=h
 obtain⟨u85,h⟩:=h
 obtain⟨u86,h⟩:=h
 obtain⟨u87,h⟩:=h
 obtain⟨u88,h⟩:=h
 obtain⟨u89,h⟩:=h
 obtain⟨u90,h⟩:=h
 obtain⟨u91,h⟩:=h
 obtain⟨u92,h⟩:=h
 obtain⟨u93,h⟩:=h
 obtain⟨u94,h⟩:=h
 obtain⟨u95,h⟩:=h
 obtain⟨u96,h⟩:=h
 obtain⟨u97,h⟩:=h
 obtain⟨u98,h⟩:=h
 obtain⟨u99,h⟩:=h
 obtain⟨u100,h⟩:=h
 obtain⟨u101,h⟩:=h
 obtain⟨u102,h⟩:=h
 exact f _ _ _ _ _ _ _ _ _ _ _ _ _ _ _ _ _ _ _ _ _ _ _ _ _ _ _ _ _ _ _ _ _ _ _ _ _ _ _ _ _ _ _ _ _ _ _ _ _ _ _ _ _ _ _ _ _ _ _ _ _ _ _ _ _ _ _ _ _ _ _ _ _ _ _ _ _ _ _ _ _ _ _ _ _ _ _ _ _ _ _ h
theorem DpF14.elim {lv:Value} {p z b8 b9 b10 b11 b14:Nat} {ds:List Deferred} {a:Act} {C:Prop} (h:DpF14 lv p z b8 b9 b10 b11 b14 ds a) (f:∀u12 u13 u15 u16 u17 u18 u19 u20 u21 u22 u23 u24 u25 u26 u27 u28 u29 u30 u31 u32 u33 u34 u35 u36 u37 u38 u39 u40 u41 u42 u43 u44 u45 u46 u47 u48 u49 u50 u51 u52 u53 u54 u55 u56 u57 u58 u59 u60 u61 u62 u63 u64 u65 u66 u67 u68 u69 u70 u71 u72 u73 u74 u75 u76 u77 u78 u79 u80 u81 u82 u83 u84 u85 u86 u87 u88 u89 u90 u91 u92 u93 u94 u95 u96 u97 u98 u99 u100 u101 u102,a={tmps:=#[lv, .int .i64 p,undef,undef, .int .i64 0, .int .i64 0, .int .i64 0, .pointer (some ⟨z,0,none⟩), .pointer (some ⟨b8,0,none⟩), .pointer (some ⟨b9,0,none⟩), .pointer (some ⟨b10,0,none⟩), .pointer (some ⟨b11,0,none⟩),u12,u13, .pointer (some ⟨b14,0,none⟩),u15,u16,u17,u18,u19,u20,u21,u22,u23,u24,u25,u26,u27,u28,u29,u30,u31,u32,u33,u34,u35,u36,u37,u38,u39,u40,u41,u42,u43,u44,u45,u46,u47,u48,u49,u50,u51,u52,u53,u54,u55,u56,u57,u58,u59,u60,u61,u62,u63,u64,u65,u66,u67,u68,u69,u70,u71,u72,u73,u74,u75,u76,u77,u78,u79,u80,u81,u82,u83,u84,u85,u86,u87,u88,u89,u90,u91,u92,u93,u94,u95,u96,u97,u98,u99,u100,u101,u102],defers:=ds}→C):C:=by
 unfold DpF14 at h
 obtain⟨u12,h⟩:=h
 obtain⟨u13,h⟩:=h
 obtain⟨u15,h⟩:=h
 obtain⟨u16,h⟩:=h
 obtain⟨u17,h⟩:=h
 obtain⟨u18,h⟩:=h
 obtain⟨u19,h⟩:=h
 obtain⟨u20,h⟩:=h
 obtain⟨u21,h⟩:=h
 obtain⟨u22,h⟩:=h
 obtain⟨u23,h⟩:=h
 obtain⟨u24,h⟩:=h
 obtain⟨u25,h⟩:=h
 obtain⟨u26,h⟩:=h
 obtain⟨u27,h⟩:=h
 obtain⟨u28,h⟩:=h
 obtain⟨u29,h⟩:=h
 obtain⟨u30,h⟩:=h
 obtain⟨u31,h⟩:=h
 obtain⟨u32,h⟩:=h
 obtain⟨u33,h⟩:=h
 obtain⟨u34,h⟩:=h
 obtain⟨u35,h⟩:=h
 obtain⟨u36,h⟩:=h
 obtain⟨u37,h⟩:=h
 obtain⟨u38,h⟩:=h
 obtain⟨u39,h⟩:=h
 obtain⟨u40,h⟩:=h
 obtain⟨u41,h⟩:=h
 obtain⟨u42,h⟩:=h
 obtain⟨u43,h⟩:=h
 obtain⟨u44,h⟩:=h
 obtain⟨u45,h⟩:=h
 obtain⟨u46,h⟩:=h
 obtain⟨u47,h⟩:=h
 obtain⟨u48,h⟩:=h
 obtain⟨u49,h⟩:=h
 obtain⟨u50,h⟩:=h
 obtain⟨u51,h⟩:=h
 obtain⟨u52,h⟩:=h
 obtain⟨u53,h⟩:=h
 obtain⟨u54,h⟩:=h
 obtain⟨u55,h⟩:=h
 obtain⟨u56,h⟩:=h
 obtain⟨u57,h⟩:=h
 obtain⟨u58,h⟩:=h
 obtain⟨u59,h⟩:=h
 obtain⟨u60,h⟩:=h
 obtain⟨u61,h⟩:=h
 obtain⟨u62,h⟩:=h
 obtain⟨u63,h⟩:=h
 obtain⟨u64,h⟩:=h
 obtain⟨u65,h⟩:=h
 obtain⟨u66,h⟩:=h
 obtain⟨u67,h⟩:=h
 obtain⟨u68,h⟩:=h
 obtain⟨u69,h⟩:=h
 obtain⟨u70,h⟩:=h
 obtain⟨u71,h⟩:=h
 obtain⟨u72,h⟩:=h
 obtain⟨u73,h⟩:=h
 obtain⟨u74,h⟩:=h
 obtain⟨u75,h⟩:=h
 obtain⟨u76,h⟩:=h
 obtain⟨u77,h⟩:=h
 obtain⟨u78,h⟩:=h
 obtain⟨u79,h⟩:=h
 obtain⟨u80,h⟩:=h
 obtain⟨u81,h⟩:=h
 obtain⟨u82,h⟩:=h
 obtain⟨u83,h⟩:=h
 obtain⟨u84,h⟩:=h
 obtain⟨u85,h⟩:=h
 obtain⟨u86,h⟩:=h
 obtain⟨u87,h⟩:=h
 obtain⟨u88,h⟩:=h
 obtain⟨u89,h⟩:=h
 obtain⟨u90,h⟩:=h
 obtain⟨u91,h⟩:=h
 obtain⟨u92,h⟩:=h
 obtain⟨u93,h⟩:=h
 obtain⟨u94,h⟩:=h
 obtain⟨u95,h⟩:=h
 obtain⟨u96,h⟩:=h
 obtain⟨u97,h⟩:=h
 obtain⟨u98,h⟩:=h
 obtain⟨u99,h⟩:=h
 obtain⟨u100,h⟩:=h
 obtain⟨u101,h⟩:=h
 obtain⟨u102,h⟩:=h
 exact f _ _ _ _ _ _ _ _ _ _ _ _ _ _ _ _ _ _ _ _ _ _ _ _ _ _ _ _ _ _ _ _ _ _ _ _ _ _ _ _ _ _ _ _ _ _ _ _ _ _ _ _ _ _ _ _ _ _ _ _ _ _ _ _ _ _ _ _ _ _ _ _ _ _ _ _ _ _ _ _ _ _ _ _ _ _ _ _ _ _ h
section
variable {ps:List (List Bod)} {p FU sb mb db b8 b9 b10 b11:Nat} {w2:World} {k g n M:Nat} {v:Value} {L:List Nat} {D:Nat→Option Nat} {done:Nat→Prop} {X Y:World}
theorem DpI.below (h:DpI ps p FU sb mb db b8 b9 b10 b11 w2 k g n M v L D done X) (hb:Below X.heap.size X Y):DpI ps p FU sb mb db b8 b9 b10 b11 w2 k g n M v L D done Y:=
 {h with s:=h.s.below hb,c10:=(hb.block _ (ah h.c10)).trans h.c10,c11:=(hb.block _ (ah h.c11)).trans h.c11}
theorem DpI.walks (h:DpI ps p FU sb mb db b8 b9 b10 b11 w2 k g n M v L D done X) {row:Option Nat} (hg:X.grownBy Y row) (hr:∀j,row=some j→w2.heap.size≤j∧j≠db∧∃o:Obj,X.heap[j]? =some o∧o.isCells=false):DpI ps p FU sb mb db b8 b9 b10 b11 w2 k g n M v L D done Y:=
 have hc:∀{g:Nat} {cs:Array Value} {T:TypeId},X.heap[g]? =some (.cells cs T (0,0))→row≠some g:=fun hg' e=>by
  obtain⟨_,_,o,ho,hc⟩:=hr _ e
  exact Hj hg' ho hc rfl
 have hk:∀{g:Nat} {cs:Array Value} {T:TypeId},X.heap[g]? =some (.cells cs T (0,0))→Y.heap[g]? =some (.cells cs T (0,0)):=fun hg'=>(hg.block _ (ah hg') (fun e=>hc hg' e.symm)).trans hg'
 {h with s:=h.s.walks hg hr,c10:=hk h.c10,c11:=hk h.c11}
theorem DpI.graph (h:DpI ps p FU sb mb db b8 b9 b10 b11 w2 k g n M v L D done X) {m m' r:Nat} {Dm Dm':DataW Value} (hm:m≤M) (hr:v.ownBlock=some r) (hA:MapAv Dm r) (hb:Below mb X Y) (hs:X.heap.size≤Y.heap.size) (hk:∀k,k<X.heap.size→k≠mb→Y.heap[k]? =X.heap[k]?)
  (hM:MapS Y mb m' Dm' (eM ps)) (hm':m'≤m+2) (hA':∀r,r<X.heap.size→MapAv Dm r→MapAv Dm' r):DpI ps p FU sb mb db b8 b9 b10 b11 w2 k g n (M+2) v L D done Y:=
 {h with
  s:=h.s.graph hm hr hA hb hs hk hM hm' hA'
  c10:=(hk _ (ah h.c10) (by have:=h.s.hmb;have:=h.h10;omega)).trans h.c10
  c11:=(hk _ (ah h.c11) (by have:=h.s.hmb;have:=h.h11;omega)).trans h.c11}
theorem DpI.more (h:DpI ps p FU sb mb db b8 b9 b10 b11 w2 k g n M v L D done X) {M':Nat} (hM:M≤M'):DpI ps p FU sb mb db b8 b9 b10 b11 w2 k g n M' v L D done X:=
 {h with s:=h.s.more hM}
theorem DpI.len (h:DpI ps p FU sb mb db b8 b9 b10 b11 w2 k g n M v L D done X) (hF:FU<16):L.length≤16:=qhY 16 L h.B.nd (fun x hx=>by have:=h.hL x hx;omega)
theorem DpI.next (h:DpI ps p FU sb mb db b8 b9 b10 b11 w2 k g n M v L D done X) (hb:Below X.heap.size X Y) {b n' M':Nat} {done':Nat→Prop} (hM:M≤M') (hbX:X.heap.size≤b) (hc:Y.heap[b]? =some (.cells #[uV n'] 84 (0,0))) (B:Bfs (TS (mvA ps) p) FU (2 ^ p) L D k done'):DpI ps p FU sb mb db b8 b9 b10 b w2 k g n' M' v L D done' Y:=
 have k1:=h.below hb
 {s:=k1.s.more hM
  c10:=k1.c10
  c11:=hc
  n10:=h.n10
  n11:=fun e=>by
   obtain⟨cs,r,e1,_,e2⟩:=h.s.mrow
   rw[e1]at e
   have:=ah e2
   have:r=b:=qgb e
   omega
  h10:=h.h10
  h11:=by have:=h.s.le;omega
  B:=B
  hL:=h.hL
  hk:=h.hk
  hg:=h.hg}
theorem DpI.hit (h:DpI ps p FU sb mb db b8 b9 b10 b11 w2 k g n M v L D done X) {X1 X2 X3:World} {D':Nat→Option Nat} {v':Value} {done':Nat→Prop} (hp:X.grownBy X1 (some db)) (ho:OwD X1 db (L.length+1) D') (hb:Below X1.heap.size X1 X2) (hg:X2.grownBy X3 v.ownBlock)
  (hu:OwU X3 w2.heap.size v' ((L.drop k).map uV++[uV n])) (hv:v'.ownBlock=v.ownBlock∨∃r,v'.ownBlock=some r∧X2.heap.size≤r) (B:Bfs (TS (mvA ps) p) FU (2 ^ p) (L++[n]) D' k done') (hn:n≤FU∧n≠0):
  DpI ps p FU sb mb db b8 b9 b10 b11 w2 k g n M v' (L++[n]) D' done' (X3.setCell ⟨b9,0,none⟩ v'):=by
 have s1:=h.s.put hp ho
 have s2:=s1.below hb
 have s3:=s2.app hg hu hv
 have hd:=h.s.od.obj
 have hbox:∀{b m:Nat},X.heap[b]? =some (.cells #[uV m] 84 (0,0))→v.ownBlock≠some b→(X3.setCell ⟨b9,0,none⟩ v').heap[b]? =some (.cells #[uV m] 84 (0,0))∧v'.ownBlock≠some b:=fun{b m} hx hv1=>by
  have h1:=(hp.block _ (ah hx) (fun e=>by obtain⟨o,ho,hc⟩:=hd;exact Hj hx ho hc (qgb e))).trans hx
  have h2:=(hb.block _ (ah h1)).trans h1
  have h3:=(hg.block _ (ah h2) (fun e=>hv1 e.symm)).trans h2
  have h9:=(hg.block _ (ah s2.c9) (fun e=>by
   obtain⟨cs,r,e1,_,e2⟩:=s2.mrow
   rw[e1]at e
   exact qhi e2 s2.c9 (by decide) (qgb e).symm)).trans s2.c9
  refine⟨(qaH _ _ _ _ (qhi h3 h9 (by decide))).trans h3,fun e=> ?_⟩
  rcases hv with e1|⟨r,e1,hr⟩
  ·exact hv1 (e1▸e)
  ·rw[e1]at e
   have:=ah h2
   have:r=b:=qgb e
   omega
 obtain⟨k10,m10⟩:=hbox h.c10 h.n10
 obtain⟨k11,m11⟩:=hbox h.c11 h.n11
 have hl:(L++[n]).length=L.length+1:=by simp
 have hx:((L++[n]).drop k).map uV=(L.drop k).map uV++[uV n]:=by
  rw[List.drop_append_of_le_length (Nat.le_of_lt h.hk),qgh]
  rfl
 exact
 {s:=by rw[hl,hx];exact s3
  c10:=k10
  c11:=k11
  n10:=m10
  n11:=m11
  h10:=h.h10
  h11:=h.h11
  B:=B
  hL:=fun x hx=>by
   rcases altl.1 hx with hx|hx
   ·exact h.hL x hx
   ·obtain rfl:x=n:=by simpa using hx
    exact hn
  hk:=by have:=h.hk;omega
  hg:=by rw[List.getElem?_append_left h.hk];exact h.hg}
end
theorem MkOK.add {B E:Nat} {bs:List Nat} {X:World} (h:MkOK B bs X) (hD:X.heap[E]? =some (.deferred (some []))) (hB:B≤E) (hn:∀j∈bs,j<E):MkOK B (E::bs) X:=
 ⟨List.nodup_cons.2 ⟨fun hm=>by have:=hn E hm;omega,h.1⟩,fun j hj=>by
  rcases alsk.1 hj with rfl|hj
  ·exact⟨hB,hD⟩
  ·exact h.2 j hj⟩
theorem MkOK.own {B B0:Nat} {bs:List Nat} {X Y:World} {row:Option Nat} (h:MkOK B bs X) (hg:X.grownBy Y row) (hr:∀j,row=some j→B0≤j) (hn:∀j∈bs,j<B0):MkOK B bs Y:=
 ⟨h.1,fun j hj=>⟨(h.2 j hj).1,(hg.block _ (ah (h.2 j hj).2) (fun e=>by have:=hr _ e.symm;have:=hn j hj;omega)).trans (h.2 j hj).2⟩⟩
theorem MkOK.keptc {B:Nat} {bs:List Nat} {X Y:World} {row:Option Nat} (h:MkOK B bs X) (hg:X.grownBy Y row) (hr:∀j,row=some j→X.heap[j]? ≠some (.deferred (some []))):MkOK B bs Y:=
 ⟨h.1,fun j hj=>⟨(h.2 j hj).1,(hg.block _ (ah (h.2 j hj).2) (fun e=>hr j e.symm (h.2 j hj).2)).trans (h.2 j hj).2⟩⟩
theorem OwD.not_mark {w:World} {b n:Nat} {K:Nat→Option Nat} (h:OwD w b n K):w.heap[b]? ≠some (.deferred (some [])):=by
 obtain⟨D,⟨es,ck,hb,_⟩,hK⟩:=h
 rw[hb]
 intro e
 cases e
theorem qgy {w:World} {b:Nat} {cs:Array Value} {T:TypeId} (h:w.heap[b]? =some (.cells cs T (0,0))):w.heap[b]? ≠some (.deferred (some [])):=by
 rw[h]
 intro e
 cases e
end
section
open Go.RowKit
section
variable {P:Program} {ops:Array Oper} {md:Region.Mode} {Q:Exit→Act→World→Prop}
theorem qeE {a:Act} {w:World} {l:List Oper} (wi ci:List Nat) (t0:Nat) (ms:List Nat) (f0:Nat) (fs:List Nat) (R:List SP) (S:World→Prop) (hB:il .any l.toArray wi ci t0 (ms++f0::fs)=true)
  (hB2:fQ .any l.toArray f0 (ci++t0::ms)=true)
  (hS:∀u:Ext w,S u.val) (hz:pZ P l.toArray S (xm R) wi a)
  (h:wpK P .any l.toArray (xm R) w Q [] (fun vals a'=>∀u:Ext w,(∀i∈ci,xm R i (vals i) u.val)→wpList P l.toArray (vK P l.toArray S Q (f0::fs) ms) (bu l.toArray [t0]) a' u.val) ci (fun _=>undef) a):
  wpAny P .any l.toArray (NoPanic Q) l.toArray.size (Array.replicate l.toArray.size false) a {w with drawn:=w.drawn+1}:=by
 have hst:∀i v w w',Below w.heap.size w w'→xm R i v w→xm R i v w':=fun i v w w' hb h=>(R.getD i (sv undef)).2 v w w' hb h
 have hB':=hB
 simp only[il,qaF,qfV]at hB
 obtain⟨⟨⟨⟨⟨⟨⟨⟨⟨⟨⟨⟨⟨⟨hsel,hd⟩,hnd⟩,hpw⟩,htl⟩,hsz⟩,hs⟩,hwc⟩,hwn⟩,hfr⟩,hc⟩,hdis⟩,hcov⟩,hop⟩,hfo⟩:=hB
 have hlt:∀i∈ci,i<l.toArray.size:=fun i hi=>by
  have h:=alsi.1 hop i hi
  rcases Nat.lt_or_ge i l.toArray.size with h'|h'
  ·exact h'
  ·rw[Array.getElem?_eq_none h']at h;cases h
 have hdep:∀i∈ci,∀j,Region.waitsFor .any l.toArray i j=true→j<i∧j∈ci:=fun i hi j hj=>by
  have h:=alsi.1 hop i hi
  obtain⟨o,ho,e,hem,hb,rfl⟩:=Region.waitsFor_spec hj
  rw[ho]at h
  simp only[qaF]at h
  have:=Array.all_eq_true'.1 h.1 e hem
  simpa [hb]using this
 have hlk:∀i∈ci,∀o,l.toArray[i]? =some o→∀j∈ci,Region.waitsFor .any l.toArray i j=true∨∀d,aM l.toArray j=some d→d ∉ o.looksAt l.toArray:=fun i hi o ho j hj=>by
  have h:=alsi.1 hop i hi
  rw[ho]at h
  simp only[qaF]at h
  have h2:=alsi.1 h.2 j (ultv.2 (hlt j hj))
  have hnt:j ∉ t0::(ms++f0::fs):=by have:=alsi.1 hdis j hj;simpa using this
  simp only[qgf]at h2
  rcases h2 with(h3|h3)|h3
  ·exact absurd (by simpa using h3) hnt
  ·exact .inl h3
  ·refine .inr fun d hd hm=> ?_
   rw[hd]at h3
   simp[hm]at h3
 have hnil:∀j,(bw l.toArray [] l.toArray.size).getD j false=false:=fun j=>by rw[bg];simp
 have hobs:=gK (P:=P) (md:= .any) (Q:=Q) (zi:=[]) (R:=xm R) (a0:=a) (w0:=w) hsel hd hpw hlt hdep hlk ci [] (fun _=>undef) rfl (by rw[dD hnil];exact h)
 have hrep:∀j,(Array.replicate l.toArray.size false).getD j false=false:=fun j=>getD_replicate_false _ _
 have hwc':∀i∈wi,i∈ci:=fun i hi=>by have:=alsi.1 hwc i hi;simpa using this
 have hcf:cT .any l.toArray (f0::fs)=true:=Pp (t0::ms) hc
 have hit:∀i∈wi,i ∉ t0::(ms++f0::fs):=fun i hi=>by have:=alsi.1 hdis i (hwc' i hi);simpa using this
 have hgo:=ot (P:=P) (Q:=Q) hB' (a0:=a) (w0:=w) hS hst (fun i hi vals=>by
   have h1:=hobs.1 i hi vals (by simp)
   intro w' hb hR
   have h2:=h1 w' hb hR
   simpa using h2) (fun vals w' hb hR=>by
   obtain⟨vals1,h1,h2⟩:=hobs.2 vals (by simp) (fun j hj=>⟨w',hR j hj⟩)
   rw[dO (vals:=vals) (vals':=vals1) (fun j hj=>h1 j (by rw[bg]at hj;simp at hj;exact hj.2))]
   exact h2 ⟨w',hb⟩ (fun i hi=>by rw[←h1 i hi];exact hR i hi))
 have hb0:Below w.heap.size w {w with drawn:=w.drawn+1}:=⟨rfl,rfl,rfl,qaA _,fun _ _=>rfl⟩
 have htl':∀t∈t0::(ms++f0::fs),t<l.toArray.size:=fun t ht=>by have:=alsi.1 htl t ht;simpa using this
 have:=nA (P:=P) (md:= .any) (Q:=Q) (wi:=wi) (cs:=ci++t0::ms) (f0:=f0) (fs:=fs) (S:=S) (R:=xm R) (a0:=a) (w:={w with drawn:=w.drawn+1}) (g:=(ci.length-wi.length)+(1+(ms.length+(fs.length+1)))) hsel hd hB2 hcf (fun i hi=>List.mem_append_left _ (hwc' i hi)) (fun i hi h=>hit i hi (List.mem_cons_of_mem _ (List.mem_append_right _ h))) (hS ⟨_,hb0⟩)
  (fun listed vals inv hl hR=>hgo (ci.length-wi.length) listed vals _ ⟨inv.closed,fun t ht hts=>by
    refine getD_in (by rw[inv.size];exact hts) ?_
    cases hx:listed.getD t false with
    |false=>rfl
    |true=>exact absurd ht (hit t ((hl t).1 hx)),inv.size⟩ (fun i hi=>(hl i).2 hi) (by have:=pT hnd hwn hwc' hl;omega) hb0 hR)
  wi [] (Array.replicate l.toArray.size false) (fun _=>undef) rfl (fun i=>by rw[hrep];simp) ⟨fun j oj _ hl=>(by rw[hrep]at hl;cases hl),fun t _ ht=>getD_in (by simpa using ht) (getD_replicate_false _ _),by simp⟩
  (fun j hj=>by rw[hrep]at hj;cases hj) hfr (by rw[dD hrep];exact hz)
 rw[dD hrep]at this
 have hle:wi.length≤ci.length:=by
  have h2:(ci.filter fun i=>wi.contains i).length=wi.length:=by
   refine List.Perm.length_eq ((List.perm_ext_iff_of_nodup (hnd.filter _) hwn).2 fun x=> ?_)
   rw[alsm]
   exact⟨fun h=>by simpa using h.2,fun h=>⟨hwc' x h,by simpa using h⟩⟩
  have:=qdz (fun i=>wi.contains i) ci
  omega
 have h9:=zj _ _ _ _ this
 simp only[qaE,qdn]at hsz
 rw[show wi.length+(ci.length-wi.length+(1+(ms.length+(fs.length+1))))=l.toArray.size by omega]at h9
 exact h9
def OnlyN (K:Act→World→Prop):Exit→Act→World→Prop
 | .normal,a,w=>K a w
 |_,_,_=>False
theorem OnlyN.normal {Q':Exit→Act→World→Prop} {a:Act} {w:World} (h:Q' .normal a w):OnlyN (fun a w=>Q' .normal a w) .normal a w:=h
end
end
section
open Go.RowKit
section
variable {P:Program} {md:Region.Mode} {ops:Array Oper}
def qfi (o:Oper):Bool:=match o.op with
 | .defer _=>false
 |_=>true
theorem qfw {Kn:Act→World→Prop} (h:LetsOut (NoPanic (OnlyN Kn))):False:=by
 obtain⟨_,_,h⟩:=h
 exact h
theorem qfO {L n:Nat} {o:Oper} {a:Act} {K K' Kn:Act→World→Prop} {Q':Exit→Act→World→Prop} (hK:∀a w,K a w→K' a w):∀r,o.upon P a K (NoPanic (OnlyN Kn)) r→o.uponIn (Fence.wide.inRound L) n P a K' Q' r
 | .ok (.value v) w',h=>hK _ _ h
 | .ok .skip w',h=>hK _ _ h
 | .ok (.defer d) w',h=>hK _ _ h
 | .ok (.enter f args) w',h=>⟨fun e=>(by cases e),CallsIn.inRound L (callsIn_wide.2 (Calls.mono h fun e w'' k=>by
   cases e with
   |returned v=>exact hK _ _ k
   |panicked chain=>exact(k:False).elim
   |outgrown=>exact(qfw k).elim))⟩
 | .ok (.row row args) w',h=>⟨fun e=>(by cases e),fun c cs _=>by
   obtain⟨v,w2,r,s⟩:=h c cs
   exact⟨v,w2,hK _ _ r,stepsIn_wide.2 s⟩⟩
 | .ok (.round ..) w',h=>(h:False).elim
 | .halt (.panic v) w',h=>(h:False).elim
 | .halt e w',h=>by cases e<;>exact(h:False).elim
theorem qfx {L n:Nat} {o:Oper} {a:Act} {K K' Kn:Act→World→Prop} {Q':Exit→Act→World→Prop} {w:World} (hc:qfi o=true) (hK:∀a w,K a w→K' a w) (h:o.wp P a w K (NoPanic (OnlyN Kn))∨(o.asks P a w∧LetsOut (NoPanic (OnlyN Kn)))):o.wpIn (Fence.wide.inRound L) n P a w K' Q':=by
 rcases h with h|⟨_,h⟩
 ·unfold Oper.wp at h
  unfold Oper.wpIn
  have hd:∀c,o.op≠ .defer c:=fun c e=>by unfold qfi at hc;rw[e]at hc;cases hc
  rw[Oper.semAt_plain _ _ _ hd]
  exact⟨fun f hf=>trivial,qfO hK _ h⟩
 ·exact(qfw h).elim
theorem qdK {L n:Nat} {Kn:Act→World→Prop} {Q':Exit→Act→World→Prop} (hc:∀(i:Nat) (o:Oper),ops[i]? =some o→qfi o=true) (hQ:∀a w,Kn a w→Q' .normal a w):
  ∀(f:Nat) (listed:Array Bool) (a:Act) (w:World),wpAny P md ops (NoPanic (OnlyN Kn)) f listed a w→wpAnyIn (Fence.wide.inRound L) n P md ops Q' f listed a w
 |0,listed,a,w,h=>⟨h.1,hQ _ _ h.2⟩
 |f+1,listed,a,w,h=>by
  refine⟨fun h0=>hQ _ _ (h.1 h0),fun i hi=> ?_⟩
  have h1:=h.2 i hi
  unfold wpOp at h1
  unfold wpOpIn
  cases ho:ops[i]? with
  |none=>
   rw[ho]at h1
   exact qdK hc hQ f _ _ _ h1
  |some o=>
   rw[ho]at h1
   simp only at h1 ⊢
   split at h1
   ·rename_i hw
    rw[if_pos hw]
    exact qfx (hc i o ho) (fun a' w' h'=>qdK hc hQ f _ a' w' h') h1
   ·rename_i hw
    rw[if_neg hw]
    exact⟨fun g hg=>trivial,qdK hc hQ f _ _ _ h1⟩
theorem qet {L n id:Nat} {l:List Oper} {Q':Exit→Act→World→Prop} {a:Act} {w:World} (hm:P.follows .mixedOrders=true) (hc:(l.all qfi)=true)
  (h:wpAny P .any l.toArray (NoPanic (OnlyN fun a w=>Q' .normal a w)) l.toArray.size (Array.replicate l.toArray.size false) a {w with drawn:=w.drawn+1}):(Code.region id l.toArray true).wpIn (Fence.wide.inRound L) n P Q' a w:=
 wpIn_region_any hm (qdK (fun i o ho=>by
  have:=alsi.1 hc o
  rw[qdp]at ho
  exact this (List.mem_of_getElem? ho)) (fun _ _ h=>h) _ _ _ _ h)
end
end
section
open Go.RowKit Go.Shelf Go.Lib
set_option maxRecDepth 100000
attribute [local go_sem] Ext.cell Ext.frozen
theorem qhG (L:List Nat) (b k:Nat):ma L b (k+1)=if b.testBit k then ma L b k++[L.getD k 0]else ma L b k:=rfl
theorem qgu (L:List Nat) (b:Nat):∀k,(ma L b k).length≤k
 |0=>qaA _
 |k+1=>by
  rw[qhG]
  have:=qgu L b k
  split
  ·simp;omega
  ·omega
theorem qit:∀k,k<4→∀b,b<16→bits .and .i64 (((b:Nat):Int) / 2 ^ k) 1=if b.testBit k then 1 else 0:=by decide+kernel
theorem qhU (L:List Nat) (b:Nat) (v:Value) (W:World) (hl:L.length≤4) (hb:b<16) (h:NatV W v L):Calls Tryz.prog 47 #[v, .int .i64 b] W (Wu (nI (ma L b L.length)) W):=by
 obtain⟨i0,Hi0⟩:=qfT In
 have HS:=fun k=>YJ (qhG L b k)
 have HLn:=fun k=>YJ (qgu L b k)
 have Hg:=fun k (h:k<L.length)=>YJ (@qhD L k h)
 obtain⟨a,n,c,rfl,hn,hx⟩:=h.at
 have HX:=YJ hx
 have Hn:=YJ hn
 rw[hn]at hl ⊢
 clear h hx hn
 go_enter Tryz.func47,Tryz.ntmps47
 go_wp2
 go_loopw [5,6] (fun s x wr=>∃(k:Nat),k≤n∧x= .int .i64 k∧Below W.heap.size W wr∧Hid (wr.ownsRow W.heap.size 3 1 s (ma L b k).length ((ma L b k).map iV))) (fun _ x _=>n-(intOf x).toNat)
 case atStart=>exact⟨0,by omega,rfl,brf,YJ (by exact qds _ _ _ _)⟩
 case round=>
  obtain⟨k,hk,rfl,hbw,HO⟩:=hrel
  by_cases hlt:k<n
  ·have g1:(k:Int)<(n:Int):=by omega
   have g2:(0:Int)≤(k:Int):=by omega
   have hkl:k<L.length:=by have:=Hn.out;omega
   obtain⟨g,off,rfl,hi⟩:=HX.out (by omega)
   have c0:=ab hbw (hi k hkl)
   have z0:=qaC wr _ c0
   simp only at z0
   have HSk:=YJ (HS k).out
   rw[(Hg k hkl).out]at HSk
   have hPl:=(HLn k).out
   clear HS HLn Hg HX hi
   generalize L[k]=x at*
   obtain⟨P2,HP2⟩:∃P2,Hid (ma L b (k+1)=P2):=⟨_,YJ rfl⟩
   rw[HP2.out]at HSk
   generalize ma L b k=P at*
   have hbt:=qit k (by omega) b hb
   obtain⟨oa,oc,rfl⟩:=aT HO.out
   cases hbk:b.testBit k with
   |true=>
    have HS2:P2=P++[x]:=by rw[HSk.out,hbk];rfl
    have hbt':bits .and .i64 ((b:Int) / 2 ^ k) 1=1:=by rw[hbt,hbk];rfl
    clear hbt HSk
    go_wp2_with (at_builtin;refine wpList_append_own _ rfl _ _ 34 rfl W.heap.size 3 i0 (.int .i64 0) 1 8 Io Hi0.out.1 Hi0.out.2.1 Hi0.out.2.2.1 Hi0.out.2.2.2 rfl (by decide) _ P.length _ rfl ((HO).out.alloc _) ⟨_,0,none⟩ 1 1 [.int .i64 x] rfl rfl ?c1 ?c2 ?c3 ?c4 ?c5 ?_)
    case c1=>
     intro jj uu hu
     rw[jY,aq (by simp) jj]
     simpa using hu
    case c2=>intro v hv;simp at hv;subst hv;rfl
    case c3=>unfold maxLen;omega
    case c4=>omega
    case c5=>simp;have:=(hbw).size;omega
    intro v' w4 hown4 hg4 hu4
    have hb4:Below W.heap.size W w4:=((hbw).alloc (hbw).size _).grown hg4 (by simp;have:=(hbw).size;omega) (fun z hz=>by have:=((HO).out.lt z hz).1;omega)
    have HO4:Hid (w4.ownsRow W.heap.size 3 1 v' (P2).length ((P2).map iV)):=YJ (by rw[show P2=P++[x]from HS2,qaE,qgh];exact hown4)
    clear hown4 hg4 hu4
    obtain⟨va,vc,rfl⟩:=aT HO4.out
    clear HO
    go_wp2
    go_roundw
    case rel=>exact⟨k+1,by omega,by go_num,hb4,by rw[HP2.out];exact HO4⟩
    simp[intOf];try omega
   |false=>
    have HS2:P2=P:=by rw[HSk.out,hbk];rfl
    have hbt':bits .and .i64 ((b:Int) / 2 ^ k) 1=0:=by rw[hbt,hbk];rfl
    clear hbt HSk
    go_wp2
    go_roundw
    case rel=>exact⟨k+1,by omega,by go_num,hbw,by rw[HP2.out,HS2];exact HO⟩
    simp[intOf];try omega
  ·obtain rfl:k=n:=by omega
   obtain⟨oa,oc,rfl⟩:=aT HO.out
   clear HS HLn Hg HX
   go_wp2
   go_ret
   exact⟨_,rfl,hbw,by rw[TO,Vm];exact HO.out⟩
theorem qhN (l:List (List (List Q4))) (L out:List Nat) (gv pv ov:Value) (W:World) (hl:l.length≤1000) (hpl:L.length≤1000) (hol:out.length≤1000) (ho:∀j∈out,j<l.length) (h1:GsV W gv (Uh l)) (h2:NatV W pv L) (h3:NatV W ov out):
  Calls Tryz.prog 49 #[gv,pv,ov] W (Ret W (.bool (mvb l L out))):=by
 have HM:=fun i (hi:i<ways26.length) gi W' (hb:Below W.heap.size W W') (k:GrfV W' gi (TF l ways26[i]))=>YJ (show Calls Tryz.prog 63 #[gi,pv,ov] W' (Ret W' (.bool (WP (gE (TF l ways26[i])) L out)))from
  XV (TF l ways26[i]) L out gi pv ov W' (fun r hr=>qaD (Ww l _ r hr) hl) hpl hol (fun j hj=>by rw[TV];exact ho _ hj) k (h2.below hb) (h3.below hb))
 have HgsAt:=fun k (hk:k<ways26.length) (hk2:k<(Uh l).length)=>YJ (show(Uh l)[k]'hk2=TF l (ways26[k]'hk)from by simp[Uh])
 have Hrl:=YJ (Uj l)
 have HT:=fun i (hi:i<ways26.length)=>YJ (show(ways26.take (i+1)).any (fun v=>WP (gE (TF l v)) L out)=((ways26.take i).any (fun v=>WP (gE (TF l v)) L out) || WP (gE (TF l ways26[i])) L out)from by
  rw[qaI hi,List.any_append]
  simp)
 have HYes:=fun i (hi:i<ways26.length)=>YJ (show WP (gE (TF l ways26[i])) L out=true→mvb l L out=true from fun h=>by
  unfold mvb
  rw[ultj]
  exact⟨_,qaB hi,h⟩)
 have HNo:Hid ((ways26.take 26).any (fun v=>WP (gE (TF l v)) L out)=mvb l L out):=YJ rfl
 have HN0:Hid ((ways26.take 0).any (fun v=>WP (gE (TF l v)) L out)=false):=YJ rfl
 obtain⟨ga,gn,gc,rfl,hgn, -,hgx⟩:=h1
 obtain rfl:gn=26:=by rw[←hgn,Uj]
 obtain⟨pa,pn,pc,rfl, -⟩:=h2.at
 obtain⟨oa,on,oc,rfl, -⟩:=h3.at
 have HG:=YJ hgx
 have H26:Hid (ways26.length=26):=YJ rfl
 clear hgx hgn h2 h3 ho hpl hol
 generalize mvb l L out=res at*
 generalize ways26=WS at*
 go_enter Tryz.func49,Tryz.ntmps49
 go_wp2
 go_loopw [7] (fun x wr=>∃i:Nat,i≤26∧x= .int .i64 i∧Below W.heap.size W wr∧Hid ((WS.take i).any (fun v=>WP (gE (TF l v)) L out)=false)) (fun x _=>26-(intOf x).toNat)
 case atStart=>exact⟨0,by omega,rfl,brf,HN0⟩
 case round=>
  obtain⟨i,hi,rfl,hb,HD⟩:=hrel
  by_cases hlt:i<26
  ·have q1:(i:Int)<26:=by omega
   have q2:(0:Int)≤(i:Int):=by omega
   have hil:i<WS.length:=by rw[H26.out];exact hlt
   obtain⟨gb,goff,rfl,hgx⟩:=HG.out (by omega)
   have hgl:i<(Uh l).length:=by rw[Hrl.out];exact hlt
   obtain⟨gi,e1,hgi⟩:=hgx i hgl
   rw[(HgsAt i hil hgl).out]at hgi
   have HMi:=fun W' hb k=>YJ (HM i hil gi W' hb k).out
   have HTi:=HT i hil
   have HYi:=HYes i hil
   have HGi:=YJ hgi
   obtain⟨gia,gin,gic,rfl⟩:∃a n c,gi= .slice a n c:=by obtain⟨a,n,c,h,_⟩:=hgi;exact⟨a,n,c,h⟩
   have f1:=ab hb e1
   have y1:=qaC wr _ f1
   simp only at y1
   clear HM HgsAt hgx hgi HYes HT HNo HN0 HG
   have HC:=YJ (HMi wr hb (HGi.out.below hb)).out
   generalize WP (gE (TF l WS[i])) L out=mv at*
   clear HMi
   go_wp2_with fail
   refine(HC.out).mono ?_
   rintro e w5 ⟨rfl,hb5⟩
   have hw5:=fB hb hb5
   cases mv with
   |true=>
    obtain rfl:=HYi.out rfl
    clear HC HTi HYi HGi HD
    go_wp2
    go_ret
    exact⟨by trivial,hw5⟩
   |false=>
    have HD2:Hid ((WS.take (i+1)).any (fun v=>WP (gE (TF l v)) L out)=false):=YJ (by rw[HTi.out,HD.out];rfl)
    clear HC HTi HYi HGi HD
    go_wp2
    go_roundw
    case rel=>exact⟨i+1,by omega,by go_num,hw5,HD2⟩
    simp[intOf];try omega
  ·obtain rfl:i=26:=by omega
   obtain rfl:=HNo.out.symm.trans HD.out
   clear HM HgsAt HT HYes HG HD
   go_wp2
   go_ret
   exact⟨by trivial,hb⟩
theorem qhO (M:List Nat→Bool) (F:List Nat→Int) (part:Nat) (L:List Nat):∀k, -1≤mc M F part L k
 |0=>by rw[mc];omega
 |k+1=>by
  have:=qhO M F part L k
  rw[mc]
  split
  ·omega
  ·split
   ·omega
   ·split<;>omega
theorem qil {M:List Nat→Bool} {F:List Nat→Int} {part:Nat} {L:List Nat} {k:Nat} (h0:k≠0) (h:(ma L k L.length).contains part=false∨M (ma L k L.length)=false):mc M F part L (k+1)=mc M F part L k:=by
 rw[mc,if_neg h0,if_pos h]
theorem qic {M:List Nat→Bool} {F:List Nat→Int} {part:Nat} {L:List Nat} {k:Nat} (h0:k≠0) (h:(ma L k L.length).contains part=true) (hm:M (ma L k L.length)=true):
  mc M F part L (k+1)=if 0≤F (ma L k L.length)∧(mc M F part L k<0∨F (ma L k L.length)+1<mc M F part L k)then F (ma L k L.length)+1 else mc M F part L k:=by
 rw[mc,if_neg h0,if_neg (by rw[h,hm];simp)]
theorem qhP {n:Nat} (h:n≤4):2 ^ n≤16:=qaD (Nat.pow_le_pow_right (n:=2) (by decide) h) (by decide)
set_option maxRecDepth 100000 in
theorem qhQ (l:List (List (List Q4))) (part f:Nat) (L:List Nat) (gv pv:Value) (W:World) (hl:l.length≤1000) (hL:L.length≤4) (hLf:L.length≤f+1) (hpt:part∈L) (hp:∀y∈L,y<l.length) (h1:GsV W gv (Uh l)) (h2:NatV W pv L)
  (HRec:∀b ov W',1≤b→b<2 ^ L.length-1→part∈ma L b L.length→Below W.heap.size W W'→NatV W' ov (ma L b L.length)→Calls Tryz.prog 13 #[gv,ov, .int .i64 part] W' (Ret W' (.int .i64 (xi (mvb l) part f (ma L b L.length))))):
  Calls Tryz.prog 13 #[gv,pv, .int .i64 part] W (Ret W (.int .i64 (xi (mvb l) part (f+1) L))):=by
 have hpos:=List.length_pos_of_mem hpt
 have hL16:=qhP hL
 have HSub:=fun b W' (hb:b<2 ^ L.length) (h':Below W.heap.size W W')=>YJ (qhU L b pv W' hL (by omega) (h2.below h'))
 have HHas:=fun b ov W' (k:NatV W' ov (ma L b L.length))=>YJ (VP (Vu ov (ma L b L.length) part W' (by have:=qgu L b L.length;omega) k))
 have HMv:=fun b ov W' (h':Below W.heap.size W W') (k:NatV W' ov (ma L b L.length))=>YJ (qhN l L (ma L b L.length) gv pv ov W' hl (by omega) (by have:=qgu L b L.length;omega) (fun j hj=>hp j (qhv hj)) (h1.below h') (h2.below h') k)
 have HRc:=fun b ov W' (h1:1≤b) (h2:b<2 ^ L.length-1) (h3:(ma L b L.length).contains part=true) h4 h5=>YJ (HRec b ov W' h1 h2 (by rw[List.contains_eq_mem,qfV]at h3;exact h3) h4 h5)
 have HBd:=fun b (h2:b<2 ^ L.length-1) (h3:(ma L b L.length).contains part=true)=>YJ (show xi (mvb l) part f (ma L b L.length)<4∧ -1≤xi (mvb l) part f (ma L b L.length)from by
  have h4:=AL h2
  have h5:part∈ma L b L.length:=by rw[List.contains_eq_mem,qfV]at h3;exact h3
  have h6:=qhw (mvb l) part f _ (by omega) h5
  have h7:=qio (mvb l) part (f:=f) (L:=ma L b L.length) (by omega) h5
  exact⟨by omega,h7⟩)
 have HTge:=fun k=>YJ (qhO (mvb l L) (xi (mvb l) part f) part L k)
 have HTlt:=fun k (hk:k≤2 ^ L.length-1)=>YJ (show mc (mvb l L) (xi (mvb l) part f) part L k<6 from qhz (by omega) k fun b hb1 hb2 hb3=>by
  have h4:=AL (L:=L) (b:=b) (by omega)
  have h6:=qhw (mvb l) part f _ (by omega) hb3
  omega)
 have HTn:=fun k=>YJ (@qil (mvb l L) (xi (mvb l) part f) part L k)
 have HTy:=fun k=>YJ (@qic (mvb l L) (xi (mvb l) part f) part L k)
 have HT1:Hid (mc (mvb l L) (xi (mvb l) part f) part L 1= -1):=YJ rfl
 have H0:Hid (L.length=1→xi (mvb l) part (f+1) L=0):=YJ (fun h=>by rw[xi,if_pos h])
 have HE:Hid (L.length≠1→mc (mvb l L) (xi (mvb l) part f) part L (2 ^ L.length-1)=xi (mvb l) part (f+1) L):=YJ (fun h=>by rw[xi,if_neg h])
 obtain⟨ga,gn,gc,rfl, -⟩:=h1
 obtain⟨pa,pn,pc,rfl,hpn, -⟩:=h2.at
 clear HRec h2 hp hpt hLf
 obtain⟨FF,HFF⟩:∃FF,Hid (xi (mvb l) part f=FF):=⟨_,YJ rfl⟩
 rw[HFF.out]at HRc HBd HTge HTlt HTn HTy HT1 HE
 generalize xi (mvb l) part (f+1) L=res at*
 rw[hpn]at HSub HHas HMv HRc HBd HTlt HTn HTy H0 HE hL16 hL hpos
 by_cases h1':pn=1
 ·have hb1:((pn:Int)==1)=true:=by simp;omega
  obtain rfl:=H0.out h1'
  clear HSub HHas HMv HRc HBd HTge HTlt HTn HTy HT1 HE
  go_enter Tryz.func13,Tryz.ntmps13
  go_wp2
  go_ret
  exact⟨by trivial,brf⟩
 ·have HE':=YJ (HE.out h1')
  obtain⟨K,HK⟩:∃K,Hid (2 ^ pn-1=K):=⟨_,YJ rfl⟩
  have hp1:1≤2 ^ pn:=Nat.one_le_two_pow
  have hK16:K≤15:=by have:=HK.out;omega
  have hK1:1≤K:=by
   have:=HK.out
   have h2:2≤pn:=by omega
   have h3:2 ^ 2≤2 ^ pn:=Nat.pow_le_pow_right (by decide) h2
   omega
  have hKp:2 ^ pn=K+1:=by have:=HK.out;omega
  rw[HK.out]at HRc HBd HTlt HE'
  rw[hKp]at HSub
  have hKI:(2:Int) ^ pn=(K:Int)+1:=by
   have:(((2:Nat) ^ pn:Nat):Int)=((K+1:Nat):Int):=by rw[hKp]
   simpa using this
  have hb1:((pn:Int)==1)=false:=by simp;omega
  clear H0 HE HK hp1 hL16
  go_enter Tryz.func13,Tryz.ntmps13
  go_wp2
  go_loopw [7,8] (fun y x wr=>∃k:Nat,1≤k∧k≤K∧x= .int .i64 k∧y= .int .i64 (mc (mvb l L) FF part L k)∧Below W.heap.size W wr) (fun _ x _=>K-(intOf x).toNat)
  case atStart=>exact⟨1,by omega,hK1,rfl,by rw[HT1.out],brf⟩
  case round=>
   obtain⟨k,hk1,hk,rfl,rfl,hb⟩:=hrel
   clear hKp
   by_cases hlt:k<K
   ·have q1:(k:Int)<(K:Int):=by omega
    have q2:(1:Int)≤(k:Int):=by omega
    have HS1:=YJ (HSub k wr (by omega) hb).out
    have HTg:=(HTge k).out
    have HTl:=(HTlt k (by omega)).out
    have HN:=YJ ((HTn k).out (by omega))
    have HY:=YJ ((HTy k).out (by omega))
    have HH:=fun ov W' k1=>YJ (HHas k ov W' k1).out
    have HM:=fun ov W' k1 k2=>YJ (HMv k ov W' k1 k2).out
    have HR:=fun ov W' h3 k1 k2=>YJ (HRc k ov W' hk1 hlt h3 k1 k2).out
    have HB:=fun h3=>YJ (HBd k hlt h3).out
    clear HSub HHas HMv HRc HBd HTge HTlt HTn HTy HT1 HE'
    obtain⟨D2,HD2⟩:∃D2,Hid (mc (mvb l L) FF part L (k+1)=D2):=⟨_,YJ rfl⟩
    rw[HD2.out]at HN HY
    generalize mc (mvb l L) FF part L k=dk at*
    generalize ma L k pn=SB at*
    generalize FF SB=fd at*
    go_wp2_with fail
    refine(HS1.out).mono ?_
    rintro e w1 ⟨ov,rfl,hb1,ho1⟩
    have hw1:=fB hb hb1
    have HO1:Hid (NatV w1 ov SB):=YJ (jy ho1)
    obtain⟨oa,oc,rfl⟩:=aT ho1
    clear HS1 ho1
    cases hc:SB.contains part with
    |false=>
     have HC:=YJ (HH _ w1 HO1.out).out
     rw[hc]at HC
     have HD3:D2=dk:=HN.out (.inl hc)
     clear HM HR HB HN HY hc HH
     go_wp2_with fail
     refine(HC.out).mono ?_
     rintro e w2 ⟨rfl,hb2⟩
     have hwu:=fB hw1 hb2
     clear HC
     go_wp2
     go_roundw
     case rel=>exact⟨k+1,by omega,by omega,by go_num,by rw[HD2.out,HD3],hwu⟩
     simp[intOf];try omega
    |true=>
     have HC:=YJ (HH _ w1 HO1.out).out
     rw[hc]at HC
     go_wp2_with fail
     refine(HC.out).mono ?_
     rintro e w2 ⟨rfl,hb2⟩
     have hw2:=fB hw1 hb2
     have HO2:=YJ (HO1.out.below hb2)
     have HC2:=YJ (HM _ w2 hw2 HO2.out).out
     clear HC HH HM HO1
     cases hm:mvb l L SB with
     |false=>
      have HD3:D2=dk:=HN.out (.inr hm)
      rw[hm]at HC2
      clear HR HB HN HY hc hm
      go_wp2_with fail
      refine(HC2.out).mono ?_
      rintro e w3 ⟨rfl,hb3⟩
      have hw3:=fB hw2 hb3
      clear HC2
      go_wp2
      go_roundw
      case rel=>exact⟨k+1,by omega,by omega,by go_num,by rw[HD2.out,HD3],hw3⟩
      simp[intOf];try omega
     |true=>
      have HY':=YJ (HY.out (by trivial) hm)
      have hfd:=(HB hc).out
      rw[hm]at HC2
      have HR2:=fun W' k1 k2=>YJ (HR (.slice oa (nI SB).length oc) W' hc k1 k2).out
      clear HR HB HN HY hc hm
      go_wp2_with fail
      refine(HC2.out).mono ?_
      rintro e w3 ⟨rfl,hb3⟩
      have hw3:=fB hw2 hb3
      have HR3:=YJ (HR2 w3 hw3 (HO2.out.below hb3)).out
      clear HC2 HR2
      go_wp2_with fail
      refine(HR3.out).mono ?_
      rintro e w4 ⟨rfl,hb4⟩
      have hw4:=fB hw3 hb4
      clear HR3 HO2
      by_cases hd0:0≤fd
      ·by_cases hk0:dk<0
       ·have HD3:D2=fd+1:=by rw[HY'.out,if_pos ⟨hd0, .inl hk0⟩]
        clear HY'
        go_wp2
        go_roundw
        case rel=>exact⟨k+1,by omega,by omega,by go_num,by rw[HD2.out,HD3],hw4⟩
        simp[intOf];try omega
       ·by_cases hlt2:fd+1<dk
        ·have HD3:D2=fd+1:=by rw[HY'.out,if_pos ⟨hd0, .inr hlt2⟩]
         clear HY'
         go_wp2
         go_roundw
         case rel=>exact⟨k+1,by omega,by omega,by go_num,by rw[HD2.out,HD3],hw4⟩
         simp[intOf];try omega
        ·have HD3:D2=dk:=by rw[HY'.out,if_neg (by omega)]
         clear HY'
         go_wp2
         go_roundw
         case rel=>exact⟨k+1,by omega,by omega,by go_num,by rw[HD2.out,HD3],hw4⟩
         simp[intOf];try omega
      ·have HD3:D2=dk:=by rw[HY'.out,if_neg (by omega)]
       clear HY'
       go_wp2
       go_roundw
       case rel=>exact⟨k+1,by omega,by omega,by go_num,by rw[HD2.out,HD3],hw4⟩
       simp[intOf];try omega
   ·obtain rfl:k=K:=by omega
    obtain rfl:=HE'.out
    clear HSub HHas HMv HRc HBd HTge HTlt HTn HTy HT1
    go_wp2
    go_ret
    exact⟨by trivial,hb⟩
theorem qhC (l:List (List (List Q4))) (part:Nat) (hl:l.length≤1000):∀(f:Nat) (L:List Nat) (gv pv:Value) (W:World),L.length≤4→L.length≤f→part∈L→(∀y∈L,y<l.length)→GsV W gv (Uh l)→NatV W pv L→Calls Tryz.prog 13 #[gv,pv, .int .i64 part] W (Ret W (.int .i64 (xi (mvb l) part f L)))
 |0,L,gv,pv,W,_,hf,hp,_,_,_=>by
  have:=List.length_pos_of_mem hp
  omega
 |f+1,L,gv,pv,W,h4,hf,hp,hy,h1,h2=>
  qhQ l part f L gv pv W hl h4 hf hp hy h1 h2 fun b ov W' hb1 hb2 hb3 hb k=>
   qhC l part hl f (ma L b L.length) gv ov W' (by have:=AL hb2;omega) (by have:=AL hb2;omega) hb3 (fun y h=>hy y (qhv h)) (h1.below hb) k
end
end Go.Proofs.YtffbilcjhlncfaaGreatDoor
