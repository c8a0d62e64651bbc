/- texts: Z2 Z3 Ms A0 A1. -/
import Derived.Test.YtokhkhnofkcalaaGreatDoorKZS44
namespace Go.Proofs.YtokhkhnofkcalaaGreatDoor
set_option maxHeartbeats 8000000
set_option linter.unusedSimpArgs false
set_option linter.unusedVariables false
section
open Go.RowKit Go.Shelf
theorem uk:(Tryz.prog.info? 72).map (fun i=>(i.zero,i.size,i.bytes))=some (some (.slice none 0 0),1,24):=by kernel_rfl
theorem ul:Tryz.prog.underlying 73=some (.slice 72):=by kernel_rfl
theorem gG {ops:Array Oper} {rest:List Oper} {o:Oper} {a:Act} {Q:Exit→Act→World→Prop} {w:World} {B B':Nat} {cs ds:List (List Q4)} {v xv:Value} (hc:FO B cs v w) (hd:CO B' ds xv w) (hBB:B≤B') (h0:0<ds.length) (s x:Operand) (hgd:o.guard=none)
  (ho:o.op= .call {callee:= .builtin .append,args:=#[s,x],argTypes:=#[72,72]})
  (hs:a.eval s=v) (hx:a.eval x=xv) (hn:cs.length+ds.length≤100000) (hB:B≤w.heap.size)
  (h:∀v' w',Below w.heap.size w w'→CO B (cs++ds) v' w'→wpList Tryz.prog ops Q rest (a.put o.dst v') w'):wpList Tryz.prog ops Q (o::rest) a w:=by
 obtain⟨i0,hi0,hz0,hz1,hz2⟩:=info_parts gT
 obtain⟨⟨g,rfl⟩,us,hu1,hu2⟩:=hc
 obtain⟨ws,hw1,hw2⟩:=hd
 obtain⟨g2,cap,rfl⟩:∃g2 cap,xv= .slice (some ⟨g2,0,none⟩) ds.length cap:=by
  rcases hw1.2 with⟨rfl,h1⟩|⟨g,cap,cur,rfl,_⟩
  ·omega
  ·exact⟨g,cap,rfl⟩
 obtain⟨v',w',h1,h2,h3⟩:=dM (P:=Tryz.prog) (w:=w) 72 o.type 104 i0 (.slice none 0 0) 1 24 gU hi0 hz0 hz1 hz2 rfl (by decide) ⟨g,0,none⟩ cs.length cs.length us hu1.1 (hu1.cells rfl) ⟨g2,0,none⟩ ds.length cap ws hw1.1 (hw1.cells rfl) (by omega) (by unfold maxLen;omega) (by omega)
 refine wpList_plain hgd fun _ hK=> ?_
 refine cZ s x 72 ho (by rw[hs,hx];exact h1) (hK _ _ ?_)
 refine h v' w' h3 ⟨us++ws, ?_,by simp[hu2.1,hw2.1],fun i h4 h5=> ?_⟩
 ·rw[List.length_append]
  exact AY h2 hB
 ·by_cases hi:i<us.length
  ·have hc:i<cs.length:=by rw[←hu2.1];exact hi
   rw[List.getElem_append_left hi,List.getElem_append_left hc]
   exact au (hu2.2 i hi hc) h3
  ·have hc:¬i<cs.length:=by rw[←hu2.1];exact hi
   rw[List.getElem_append_right (by omega),List.getElem_append_right (by omega)]
   have:=hw2.2 (i-us.length) (by simp at h4;omega) (by have:=hu2.1;simp at h5;omega)
   have e:=hu2.1
   simp only[e]at this ⊢
   exact AY (au this h3) hBB
theorem rQ {w:World} {B1 B2 s1 s2 n1 n2:Nat} {e1 e2:TypeId} {v1 v2:Value} {x1 x2:List Value} (h1:w.ownsRow B1 e1 s1 v1 n1 x1) (h2:w.ownsRow B2 e2 s2 v2 n2 x2) (hne:e1≠e2):v1.ownBlock=none∨v1.ownBlock≠v2.ownBlock:=by
 rcases h2.2 with⟨rfl,_⟩|⟨g,cap,cur,rfl,_,hh,_⟩
 ·cases e:v1.ownBlock with
  |none=>exact .inl rfl
  |some b=>exact .inr (by simp[Value.ownBlock])
 ·exact .inr (aG h1 hh hne)
theorem wN {w:World} {B s n m c g:Nat} {e:TypeId} {xs:List Value} (h:w.ownsRow B e s (.slice (some ⟨g,0,none⟩) n c) m xs):∃cur,w.heap[g]? =some (.cells cur e (0,0)):=by
 rcases h.2 with⟨e1,_⟩|⟨g',cap,cur,e1,_,hh,_⟩
 ·cases e1
 ·injection e1 with e2
  injection e2 with e3
  injection e3 with e4
  subst e4
  exact⟨cur,hh⟩
theorem yq {w:World} {B s n:Nat} {e T:TypeId} {v:Value} {x:List Value} (h:w.ownsRow B e s v n x) (hT:e≠T):∀g o,v.ownBlock=some g→w.heap[g]? =some o→∃c t,o= .cells c t (0,0)∧t≠T:=by
 intro g o hg hh
 rcases h.2 with⟨rfl,_⟩|⟨g',cap,cur,rfl,_,h2,_⟩
 ·simp[Value.ownBlock]at hg
 ·obtain rfl:g'=g:=by simpa [Value.ownBlock]using hg
  rw[h2]at hh
  cases hh
  exact⟨_,_,rfl,hT⟩
theorem qt {B:Nat} (p1 p2 p3 p4:Int) (W:World) (hB:B≤W.heap.size):FO B [[(p1,p2,p3,p4)]] (.slice (some ⟨W.heap.size+1,0,none⟩) 1 1) ((W.alloc (.cells #[.int .i64 p1, .int .i64 p2, .int .i64 p3, .int .i64 p4] 69)).alloc (.cells #[.slice (some ⟨W.heap.size,0,none⟩) 1 1] 104)):=by
 have h:=bi (B:=B) (W:=W.alloc (.cells #[.int .i64 p1, .int .i64 p2, .int .i64 p3, .int .i64 p4] 69)) [.slice (some ⟨W.heap.size,0,none⟩) 1 1] [[(p1,p2,p3,p4)]] (by simp;omega) ⟨sF p1 p2 p3 p4 rfl hB,trivial⟩ bel
 simpa using h
def KF (B:Nat) (ks:List (List (List Q4))):Value→World→Prop:=fun v w=>(∃g,v= .slice (some ⟨g,0,none⟩) ks.length ks.length)∧KO B ks v w
theorem yr (B:Nat) (ks:List (List (List Q4))):dR (KF B ks):=fun _ _ _ hb ⟨h,k⟩=>⟨h,db B _ _ _ _ hb k⟩
theorem zI {B:Nat} {W:World} (vs:List Value) (ks:List (List (List Q4))) (hB:B≤W.heap.size) (h:Alls (CO B) W vs ks) (hb:Below W.heap.size W (W.alloc (.cells vs.toArray 72))) (hn:ks.length≤1000000:=by simp):KF B ks (.slice (some ⟨W.heap.size,0,none⟩) ks.length ks.length) (W.alloc (.cells vs.toArray 72)):=
 ⟨⟨_,rfl⟩,kD vs ks hB h hb hn⟩
structure DI (W:World) (B:Nat) (L:List (Nat×Array Value×TypeId)) (g:Nat) (ks:List (List (List Q4))) (gs:List (List Q4)) (kv gv:Value) (w:World):Prop where
 below:Below W.heap.size W w
 base:W.heap.size≤B
 ge:B≤g
 keep:∀x∈L,w.heap[x.1]? =some (.cells x.2.1 x.2.2 (0,0))∧x.2.2≠104∧x.2.2≠72∧x.1≠g
 out:w.heap[g]? =some (.cells #[kv,gv] 75 (0,0))
 rows:∃vs,w.ownsRow B 72 1 kv ks.length vs∧vs.length=ks.length∧(∀i (h1:i<vs.length) (h2:i<ks.length),CO B ks[i] vs[i] w)∧∀v∈vs,∀b,gv.ownBlock=some b→v.ownBlock≠some b
 gs:CO B gs gv w
section
variable {W:World} {B:Nat} {L:List (Nat×Array Value×TypeId)} {g:Nat} {ks:List (List (List Q4))} {gs gs':List (List Q4)} {kv gv kv' gv':Value} {w w':World}
theorem DI.ko (h:DI W B L g ks gs kv gv w):KO B ks kv w:=by
 obtain⟨vs,h1,h2,h3,_⟩:=h.rows
 exact⟨vs,h1,h2,h3⟩
theorem DI.grow (h:DI W B L g ks gs kv gv w) (hb:Below w.heap.size w w'):DI W B L g ks gs kv gv w' where
 below:=ae h.below hb
 base:=h.base
 ge:=h.ge
 keep x hx:=⟨(hb.block _ (ah (h.keep x hx).1)).trans (h.keep x hx).1,(h.keep x hx).2⟩
 out:=(hb.block _ (ah h.out)).trans h.out
 rows:=by
  obtain⟨vs,h1,h2,h3,h4⟩:=h.rows
  exact⟨vs,au h1 hb,h2,fun i a b=>bU _ _ _ _ _ hb (h3 i a b),h4⟩
 gs:=bU _ _ _ _ _ hb h.gs
theorem DI.at (h:DI W B L g ks gs kv gv w) (x:Nat×Array Value×TypeId) (hx:x∈L):w.heap[x.1]? =some (.cells x.2.1 x.2.2 (0,0)):=(h.keep x hx).1
theorem DI.pushG (h:DI W B L g ks gs kv gv w) (hg:w.grownBy w' gv.ownBlock) (hc:CO B gs' gv' w') (ha:gv'.ownBlock=gv.ownBlock∨∀b,gv'.ownBlock=some b→w.heap.size≤b):
  w'.heap[g]? =some (.cells #[kv,gv] 75 (0,0))∧DI W B L g ks gs' kv gv' (w'.setCell ⟨g,1,none⟩ gv'):=by
 have ho:w'.heap[g]? =some (.cells #[kv,gv] 75 (0,0)):=(hg.block _ (ah h.out) (fg h.gs h.out (by decide))).trans h.out
 have hb:Below W.heap.size W w':=h.below.grown hg h.below.size (fun z hz=>Nat.le_trans h.base (lq h.gs z hz).1)
 refine⟨ho,hb.setCell (Nat.le_trans h.base h.ge) _,h.base,h.ge,fun x hx=>⟨?_,(h.keep x hx).2⟩,br ho 1 gv', ?_,hc.set ho (by decide) (by decide)⟩
 ·obtain⟨h1,h2,h3,h4⟩:=h.keep x hx
  exact(Below.heap_setCell w' ⟨g,1,none⟩ gv' _ h4).trans ((hg.block _ (ah h1) (fg h.gs h1 h2)).trans h1)
 ·obtain⟨vs,h1,h2,h3,h4⟩:=h.rows
  obtain⟨us,hu,_⟩:=h.gs
  have h1':=h1.kept hg (rQ h1 hu (by decide))
  refine⟨vs,aF h1' _ _ (fun e=>aG h1' ho (by decide) e.symm),h2,fun i a b=>((h3 i a b).kept hg (by
   cases e1:(vs[i]).ownBlock with
   |none=>exact .inl rfl
   |some b'=>exact .inr (fun e=>h4 _ (List.getElem_mem a) b' e.symm e1)) (oD h.gs)).set ho (by decide) (by decide),fun v hv b hb=> ?_⟩
  rcases ha with ha|ha
  ·exact h4 v hv b (by rw[←ha];exact hb)
  ·intro e
   obtain⟨i,hi,rfl⟩:=List.getElem_of_mem hv
   have:=(lq (h3 i hi (by omega)) b e).2
   have:=ha b hb
   omega
theorem DI.pushK {c:List (List Q4)} {cv:Value} {vs:List Value} {B':Nat} (h:DI W B L g ks gs kv gv w) (h1:w.ownsRow B 72 1 kv ks.length vs) (h2:vs.length=ks.length) (h3:∀i (h1:i<vs.length) (h2:i<ks.length),CO B ks[i] vs[i] w) (h4:∀v∈vs,∀b,gv.ownBlock=some b→v.ownBlock≠some b)
  (hg:w.grownBy w' kv.ownBlock) (hc:CO B' c cv w) (hBB:B≤B') (hlt:∀b,gv.ownBlock=some b→b<B') (hr:w'.ownsRow B 72 1 kv' (ks.length+1) (vs++[cv])):
  w'.heap[g]? =some (.cells #[kv,gv] 75 (0,0))∧DI W B L g (ks++[c]) gs kv' gv (w'.setCell ⟨g,0,none⟩ kv'):=by
 have hne:∀{x:Nat} {cc:Array Value} {T:TypeId},w.heap[x]? =some (.cells cc T (0,0))→T≠72→some x≠kv.ownBlock:=fun hx hT e=>aG h1 hx (fun e=>hT e.symm) e.symm
 have ho:w'.heap[g]? =some (.cells #[kv,gv] 75 (0,0)):=(hg.block _ (ah h.out) (hne h.out (by decide))).trans h.out
 have hb:Below W.heap.size W w':=h.below.grown hg h.below.size (fun z hz=>Nat.le_trans h.base (h1.lt z hz).1)
 have kept:∀{B0:Nat} {cs:List (List Q4)} {v:Value},CO B0 cs v w→CO B0 cs v (w'.setCell ⟨g,0,none⟩ kv'):=fun{B0 cs v} hv=>by
  obtain⟨us,hu,_⟩:=id hv
  exact(hv.kept hg (rQ hu h1 (by decide)) (yq h1 (by decide))).set ho (by decide) (by decide)
 refine⟨ho,hb.setCell (Nat.le_trans h.base h.ge) _,h.base,h.ge,fun x hx=>⟨?_,(h.keep x hx).2⟩,br ho 0 kv',⟨vs++[cv], ?_,by simp[h2],fun i a b=> ?_,fun v hv b hb=> ?_⟩,kept h.gs⟩
 ·obtain⟨k1,k2,k3,k4⟩:=h.keep x hx
  exact(Below.heap_setCell w' ⟨g,0,none⟩ kv' _ k4).trans ((hg.block _ (ah k1) (hne k1 k3)).trans k1)
 ·rw[List.length_append]
  exact aF hr _ _ (fun e=>aG hr ho (by decide) e.symm)
 ·by_cases hi:i<vs.length
  ·rw[List.getElem_append_left hi,List.getElem_append_left (by omega)]
   exact kept (h3 i hi (by omega))
  ·have:i=vs.length:=by simp at a;omega
   subst this
   have e:(ks++[c])[vs.length]=c:=by simp[h2]
   rw[e]
   simpa using kept (hc.mono hBB)
 ·rcases List.mem_append.1 hv with hv|hv
  ·exact h4 v hv b hb
  ·obtain rfl:v=cv:=by simpa using hv
   intro e
   have:=(lq hc b e).1
   have:=hlt b hb
   omega
end
theorem jR {ops:Array Oper} {rest:List Oper} {o:Oper} {a:Act} {Q:Exit→Act→World→Prop} {W w:World} {B B':Nat} {L:List (Nat×Array Value×TypeId)} {g:Nat} {ks:List (List (List Q4))} {gs c:List (List Q4)} {kv gv xv:Value}
  (h:DI W B L g ks gs kv gv w) (hd:KF B' [c] xv w) (hBB:B≤B') (hlt:∀b,gv.ownBlock=some b→b<B') (s x:Operand) (hgd:o.guard=none)
  (ho:o.op= .call {callee:= .builtin .append,args:=#[s,x],argTypes:=#[73,73]})
  (hs:a.eval s=kv) (hx:a.eval x=xv) (hn:ks.length≤100000) (hB:B≤w.heap.size)
  (hk:∀kv' w',(∃u c,kv'= .slice u (ks.length+1) c)→(∀B0 ps v,PO B0 ps v w→PO B0 ps v (w'.setCell ⟨g,0,none⟩ kv'))→w'.heap[g]? =some (.cells #[kv,gv] 75 (0,0))→DI W B L g (ks++[c]) gs kv' gv (w'.setCell ⟨g,0,none⟩ kv')→wpList Tryz.prog ops Q rest (a.put o.dst kv') w'):wpList Tryz.prog ops Q (o::rest) a w:=by
 obtain⟨i0,hi0,hz0,hz1,hz2⟩:=info_parts uk
 obtain⟨vs,h1,h2,h3,h4⟩:=h.rows
 obtain⟨⟨g2,rfl⟩,ws,hw1,hw2,hw3⟩:=hd
 obtain⟨cv,rfl⟩:∃cv,ws=[cv]:=List.length_eq_one_iff.1 (by simpa using hw2)
 have hcv:CO B' c cv w:=hw3 0 (by simp) (by simp)
 refine fq w hgd s x 73 ho B 72 i0 (.slice none 0 0) 1 24 ul hi0 hz0 hz1 hz2 rfl (by decide) kv ks.length vs hs h1 ⟨g2,0,none⟩ 1 1 [cv] hx rfl (hw1.cells rfl) (fun u hu=> ?_) (by unfold maxLen;omega) (by omega) hB fun kv' w' k1 k2 k3=> ?_
 ·obtain rfl:u=cv:=by simpa using hu
  obtain⟨_,_,e⟩:=hcv.shape
  rw[e]
  rfl
 ·obtain⟨q1,q2⟩:=h.pushK h1 h2 h3 h4 k2 hcv hBB hlt k1
  obtain⟨u,cc,e⟩:=aT k1
  exact hk kv' w' ⟨u,cc,e⟩ (fun B0 ps v hp=>by
   have h5:=World.ownsRow.kept hp k2 (rQ hp h1 (by decide))
   exact aF h5 _ _ (fun e=>aG h5 q1 (by decide) e.symm)) q1 q2
end
section
open Go.RowKit Go.Shelf
set_option maxRecDepth 100000
attribute [local go_sem] Ext.cell Ext.frozen
theorem oH (l w t:Int) (nv:Value) (n:List Int) (W:World) (hn:Ints W nv n) (hl:8≤n.length) (h2:n.length % 2=0) (hlm:n.length≤1000) (hb:∀i, -100000≤n.getD i 0∧n.getD i 0≤100000):
  Calls Tryz.prog 84 #[.agg #[.int .i64 l, .int .i64 w, .int .i64 t],nv] W (gW W (aR 8 l w n) (bR 8 l n)):=by
 obtain⟨N,HN⟩:∃N,Hid (bo n=N):=⟨_,Lib.hid rfl⟩
 have hN1:1≤N:=by rw[←HN.out];unfold bo;omega
 have hN2:N≤1000:=by rw[←HN.out];unfold bo;omega
 have HH:=fun W' (h:Below W.heap.size W W')=>Lib.hid (ki nv n W' N (hn.below h) (by rw[←HN.out];unfold bo;omega) (by omega))
 obtain⟨b,off,c,rfl,hc,zb,hat⟩:=hn.at' (by omega)
 have c0:=hat 0 (by omega)
 have c1:=hat 1 (by omega)
 have c2:=hat 2 (by omega)
 have c3:=hat 3 (by omega)
 have c4:=hat 4 (by omega)
 have c5:=hat 5 (by omega)
 rw[Nat.add_zero]at c0
 have b0:=hb 0
 have b1:=hb 1
 have b2:=hb 2
 have b3:=hb 3
 have b4:=hb 4
 have b5:=hb 5
 have HBs:Hid (∀i, -100000≤hsY (cG n N) i∧hsY (cG n N) i≤100000∧ -100000≤hsZ (cG n N) i∧hsZ (cG n N) i≤100000):=Lib.hid (fun i=>by
  by_cases h:i<N
  ·rw[(jh n N i h).1,(jh n N i h).2]
   exact⟨(hb _).1,(hb _).2,(hb _).1,(hb _).2⟩
  ·have:(cG n N).getD i (0,0)=(0,0):=by
    rw[List.getD_eq_getElem?_getD,List.getElem?_eq_none (by rw[fR];omega)]
    rfl
   unfold hsY hsZ
   rw[this]
   decide)
 have HR1:=Lib.hid (qr (n.getD 0 0) (n.getD 0 0+n.getD 3 0+n.getD 5 0) n N (by rw[HN.out];exact Nat.le_refl _))
 have HR2:=Lib.hid (qr (n.getD 0 0-n.getD 4 0-n.getD 5 0) (n.getD 0 0) n N (by rw[HN.out];exact Nat.le_refl _))
 rw[HN.out]at HR1 HR2
 have Hks:Hid (aR 8 l w n=[[geP 0 (n.getD 0 0+n.getD 3 0+n.getD 5 0)]::Bb (n.getD 0 0) (n.getD 0 0+n.getD 3 0+n.getD 5 0) n N,[leP 0 (n.getD 0 0-n.getD 4 0-n.getD 5 0)]::Bb (n.getD 0 0-n.getD 4 0-n.getD 5 0) (n.getD 0 0) n N]++io n N):=Lib.hid (by
  rw[←HN.out];rfl)
 have Hgs:Hid (bR 8 l n=if n.getD 5 0=0 then []else ip n N):=Lib.hid (by rw[←HN.out];rfl)
 have HDs:=Lib.hid (rE n)
 have HGs:=Lib.hid (ll n)
 have HD0:Hid (io n 0=[]):=Lib.hid rfl
 have HG0:Hid (ip n 0=[]):=Lib.hid rfl
 have HGl:Hid (∀j,(ip n j).length=2*j∧(io n j).length=j):=Lib.hid (fun j=>by
  refine⟨?_,by simp[io]⟩
  induction j with
  |zero=>rfl
  |succ j ih=>rw[ll,List.length_append,ih];simp;omega)
 have HSh:Hid (∀i,i<N→shapeN n i=fY (n.getD 1 0) (n.getD 2 0) (hsY (cG n N) i) (hsZ (cG n N) i)):=Lib.hid (fun i h=>by
  rw[(jh n N i h).1,(jh n N i h).2];rfl)
 have HLs:=Lib.hid (fR n N)
 have HRa:Hid (0<(Bb (n.getD 0 0) (n.getD 0 0+n.getD 3 0+n.getD 5 0) n N).length∧(Bb (n.getD 0 0) (n.getD 0 0+n.getD 3 0+n.getD 5 0) n N).length≤8000):=Lib.hid (by
  rw[←HR1.out]
  obtain⟨N',rfl⟩:∃N',N=N'+1:=⟨N-1,by omega⟩
  exact⟨nH _ _ _ _ _,Nat.le_trans (kF _ _ _ _ _) (by omega)⟩)
 have HRb:Hid (0<(Bb (n.getD 0 0-n.getD 4 0-n.getD 5 0) (n.getD 0 0) n N).length∧(Bb (n.getD 0 0-n.getD 4 0-n.getD 5 0) (n.getD 0 0) n N).length≤8000):=Lib.hid (by
  rw[←HR2.out]
  obtain⟨N',rfl⟩:∃N',N=N'+1:=⟨N-1,by omega⟩
  exact⟨nH _ _ _ _ _,Nat.le_trans (kF _ _ _ _ _) (by omega)⟩)
 rw[Hks.out,Hgs.out]
 generalize io n=DT at*
 generalize ip n=GT at*
 generalize shapeN n=SN at*
 generalize Bb (n.getD 0 0) (n.getD 0 0+n.getD 3 0+n.getD 5 0) n N=RA at*
 generalize Bb (n.getD 0 0-n.getD 4 0-n.getD 5 0) (n.getD 0 0) n N=RB at*
 generalize cG n N=hs at*
 generalize n.getD 0 0=x0 at*
 generalize n.getD 1 0=x1 at*
 generalize n.getD 2 0=x2 at*
 generalize n.getD 3 0=x3 at*
 generalize n.getD 4 0=x4 at*
 generalize n.getD 5 0=x5 at*
 generalize n.length=M at*
 obtain⟨GS,HGG⟩:∃GS:Nat→List (List Q4),Hid (∀i,(if x5=0 then []else GT i)=GS i):=⟨_,Lib.hid fun _=>rfl⟩
 obtain⟨KA,HKa⟩:∃KA,Hid ([geP 0 (x0+x3+x5)]::RA=KA):=⟨_,Lib.hid rfl⟩
 obtain⟨KB,HKb⟩:∃KB,Hid ([leP 0 (x0-x4-x5)]::RB=KB):=⟨_,Lib.hid rfl⟩
 obtain⟨KS,HKS⟩:∃KS:Nat→List (List (List Q4)),Hid (∀i,[KA,KB]++DT i=KS i):=⟨_,Lib.hid fun _=>rfl⟩
 rw[HGG.out,HKa.out,HKb.out,HKS.out]
 clear hat hn hb Hks Hgs HN h2
 obtain⟨V,HV⟩:∃V,Hid ((W.alloc (.cells #[.int .i64 l, .int .i64 w, .int .i64 t] 22)).alloc (.cells #[.slice none 0 0, .slice none 0 0] 75)=V):=⟨_,Lib.hid rfl⟩
 have hV:Below W.heap.size W V:=by rw[←HV.out];exact bel
 have HR:Hid (V.heap[W.heap.size+1]? =some (.cells #[.slice none 0 0, .slice none 0 0] 75 (0,0))):=by rw[←HV.out];exact Lib.hid (ai (by simp))
 have zs:W.heap.size+2≤V.heap.size:=by rw[←HV.out];simp
 have c0:=ab hV c0
 have c1:=ab hV c1
 have c2:=ab hV c2
 have c3:=ab hV c3
 have c4:=ab hV c4
 have c5:=ab hV c5
 have zb:=Nat.lt_of_lt_of_le zb hV.size
 have q0:(0:Int)<(M:Int):=by omega
 have q1:(1:Int)<(M:Int):=by omega
 have q2:(2:Int)<(M:Int):=by omega
 have q3:(3:Int)<(M:Int):=by omega
 have q4:(4:Int)<(M:Int):=by omega
 have q5:(5:Int)<(M:Int):=by omega
 go_enter Tryz.func84,Tryz.ntmps84
 go_wp2
 rw[HV.out]
 clear HV
 refine wqf fun u=> ?_
 have HR:=Lib.hid ((u.below.block _ (ah HR.out)).trans HR.out)
 have zs:=Nat.le_trans zs u.below.size
 have hV:=ae hV u.below
 clear c0 c1 c2 c3 c4 c5 q0 q1 q2 q3 q4 q5 zb
 generalize u.val=V2 at*
 clear u
 go_wp2_with fail
 refine((HH V2 hV).out).mono ?_
 rintro en w1 ⟨lv,rfl,hb1,ho1⟩
 obtain⟨gl,lc,e,hat⟩:=wL (hs:=hs) (by rw[HLs.out];exact ho1) (by rw[HLs.out];omega)
 rw[HLs.out]at e
 subst e
 have HO:=Lib.hid ho1
 have HAt:=Lib.hid hat
 obtain⟨cur,hcur⟩:=wN HO.out
 have HQ:Hid (∀w':World,w'.heap[gl]? =some (.cells cur 157 (0,0))→Q2At w' gl 0 hs):=Lib.hid (fun w' h i hi=>by
  have h3:=HAt.out i hi
  rw[ag hcur,ag hcur]at h3
  rw[ag h,ag h]
  exact h3)
 have HCu:=Lib.hid hcur
 clear hcur
 have HR:=Lib.hid ((hb1.block _ (ah HR.out)).trans HR.out)
 have zs:=Nat.le_trans zs hb1.size
 have hV:=ae hV hb1
 clear hat ho1 HH
 have f1:=fun W'=>Lib.hid (show Calls Tryz.prog 75 #[.int .i64 0, .int .i64 (x0+x3+x5)] W' (Ret W' (v4 (geP 0 (x0+x3+x5))))from bX 0 (x0+x3+x5) W' (by omega) (by omega))
 have f2:=fun W'=>Lib.hid (show Calls Tryz.prog 72 #[.int .i64 0, .int .i64 x0, .int .i64 (x0+x3+x5)] W' _ from bO 0 x0 (x0+x3+x5) W' (by omega) (by omega) (by omega))
 have f3:=fun W'=>Lib.hid (show Calls Tryz.prog 76 #[.int .i64 0, .int .i64 (x0-x4-x5)] W' (Ret W' (v4 (leP 0 (x0-x4-x5))))from cR 0 (x0-x4-x5) W' (by omega) (by omega))
 have f4:=fun W'=>Lib.hid (show Calls Tryz.prog 72 #[.int .i64 0, .int .i64 (x0-x4-x5), .int .i64 x0] W' _ from bO 0 (x0-x4-x5) x0 W' (by omega) (by omega) (by omega))
 have f5:=fun sp sv W' hsp h4 hh=>Lib.hid (wM sp x1 x2 sv (.slice (some ⟨gl,0,none⟩) N lc) V2.heap.size hs W' hsp h4 hh (by rw[HLs.out];omega) (by rw[HLs.out];omega) HBs.out b1 b2)
 have f6:=fun W'=>Lib.hid (show Calls Tryz.prog 72 #[.int .i64 0, .int .i64 (x0-x4), .int .i64 (x0+x3)] W' _ from bO 0 (x0-x4) (x0+x3) W' (by omega) (by omega) (by omega))
 have f7:=fun W'=>Lib.hid (show Calls Tryz.prog 72 #[.int .i64 0, .int .i64 (x0+x3), .int .i64 (x0+x3+x5)] W' _ from bO 0 (x0+x3) (x0+x3+x5) W' (by omega) (by omega) (by omega))
 have f8:=fun W'=>Lib.hid (show Calls Tryz.prog 72 #[.int .i64 0, .int .i64 (x0-x4-x5), .int .i64 (x0-x4)] W' _ from bO 0 (x0-x4-x5) (x0-x4) W' (by omega) (by omega) (by omega))
 simp only[HLs.out]at f5
 have f5a:=fun sv W' hsp hh=>f5 (btP 0 x0 (x0+x3+x5)) sv W' hsp (by simp[btP]) hh
 have f5b:=fun sv W' hsp hh=>f5 (btP 0 (x0-x4-x5) x0) sv W' hsp (by simp[btP]) hh
 rw[HR1.out]at f5a
 rw[HR2.out]at f5b
 clear f5
 have k1:IntKind.i64.wrap (x0+x3)=x0+x3:=IntWalk.i64_in _ (by omega)
 generalize geP 0 (x0+x3+x5)=p at*
 generalize leP 0 (x0-x4-x5)=q at*
 generalize btP 0 x0 (x0+x3+x5)=ba at*
 generalize btP 0 (x0-x4-x5) x0=bb at*
 obtain⟨p1,p2,p3,p4⟩:=p
 obtain⟨q1,q2,q3,q4⟩:=q
 go_wp2_with fail
 refine((f1 _).out).mono ?_
 rintro en w3 ⟨rfl,hb3⟩
 obtain⟨Y,HY⟩:∃Y,Hid ((w3.alloc (.cells #[.int .i64 p1, .int .i64 p2, .int .i64 p3, .int .i64 p4] 69)).alloc (.cells #[.slice (some ⟨w3.heap.size,0,none⟩) 1 1] 104)=Y):=⟨_,Lib.hid rfl⟩
 have hbY:Below w3.heap.size w3 Y:=by rw[←HY.out];exact bel
 have z3:=hb3.size
 have HF:Hid (FO W.heap.size [[(p1,p2,p3,p4)]] (.slice (some ⟨w3.heap.size+1,0,none⟩) 1 1) Y):=Lib.hid (by rw[←HY.out];exact qt _ _ _ _ _ (by omega))
 go_wp2_with fail
 rw[HY.out]
 refine((f2 _).out).mono ?_
 rintro en w4 ⟨v4,rfl,hb4,hp4⟩
 obtain⟨ya,yc,rfl⟩:=hp4.shape
 have hbw:=ae hb3 (ae hbY hb4)
 have HO4:=Lib.hid (au HO.out hbw)
 have HH4:=Lib.hid ((f5a _ w4 (hp4.mono (Nat.zero_le _)) HO4.out).out)
 go_wp2_with fail
 refine(HH4.out).mono ?_
 rintro en w5 ⟨v5,rfl,hb5,hc5⟩
 have hc5:=Lib.hid hc5
 obtain⟨za,zc,rfl⟩:=hc5.out.shape
 have HF5:=Lib.hid (dF _ _ _ _ _ (ae hb4 hb5) HF.out)
 have zw5:W.heap.size≤w4.heap.size:=by have:=hbw.size;omega
 clear hp4 HF HY hbY HO4 HH4
 go_wp2_with (at_builtin;refine gG HF5.out hc5.out zw5 (HRa.out).1 _ _ rfl rfl rfl rfl ?c1 ?c2 ?_)
 case c1=>have:=(HRa.out).2;simp;omega
 case c2=>have:=hb5.size;omega
 intro v6 w6 hb6 hc6
 rw[HKa.out]at hc6
 have hb16:=ae hbw (ae hb5 hb6)
 clear HF5 hc5 zw5 hb3 hb4 hb5 hb6 hbw z3
 obtain⟨wa,wc,rfl⟩:=hc6.shape
 have HKA:=Lib.hid hc6
 have HO:=Lib.hid (au HO.out hb16)
 have HCu:=Lib.hid ((hb16.block _ (ah HCu.out)).trans HCu.out)
 have HR:=Lib.hid ((hb16.block _ (ah HR.out)).trans HR.out)
 have zs:=Nat.le_trans zs hb16.size
 have hV:=ae hV hb16
 have hbA:=hb16
 clear hc6 hb16
 obtain⟨ka,rfl⟩:∃ka,ka=wa:=⟨_,rfl⟩
 obtain⟨kc,rfl⟩:∃kc,kc=wc:=⟨_,rfl⟩
 obtain⟨wA,rfl⟩:∃wA,wA=w6:=⟨_,rfl⟩
 go_wp2_with fail
 refine((f3 _).out).mono ?_
 rintro en w3 ⟨rfl,hb3⟩
 obtain⟨Y,HY⟩:∃Y,Hid ((w3.alloc (.cells #[.int .i64 q1, .int .i64 q2, .int .i64 q3, .int .i64 q4] 69)).alloc (.cells #[.slice (some ⟨w3.heap.size,0,none⟩) 1 1] 104)=Y):=⟨_,Lib.hid rfl⟩
 have hbY:Below w3.heap.size w3 Y:=by rw[←HY.out];exact bel
 have z3:=hb3.size
 have HF:Hid (FO W.heap.size [[(q1,q2,q3,q4)]] (.slice (some ⟨w3.heap.size+1,0,none⟩) 1 1) Y):=Lib.hid (by rw[←HY.out];exact qt _ _ _ _ _ (by omega))
 go_wp2_with fail
 rw[HY.out]
 refine((f4 _).out).mono ?_
 rintro en w4 ⟨v4,rfl,hb4,hp4⟩
 obtain⟨ya,yc,rfl⟩:=hp4.shape
 have hbw:=ae hb3 (ae hbY hb4)
 have HO4:=Lib.hid (au HO.out hbw)
 have HH4:=Lib.hid ((f5b _ w4 (hp4.mono (Nat.zero_le _)) HO4.out).out)
 go_wp2_with fail
 refine(HH4.out).mono ?_
 rintro en w5 ⟨v5,rfl,hb5,hc5⟩
 have hc5:=Lib.hid hc5
 obtain⟨za,zc,rfl⟩:=hc5.out.shape
 have HF5:=Lib.hid (dF _ _ _ _ _ (ae hb4 hb5) HF.out)
 have zw5:W.heap.size≤w4.heap.size:=by have:=hbw.size;omega
 clear hp4 HF HY hbY HO4 HH4
 go_wp2_with (at_builtin;refine gG HF5.out hc5.out zw5 (HRb.out).1 _ _ rfl rfl rfl rfl ?c1 ?c2 ?_)
 case c1=>have:=(HRb.out).2;simp;omega
 case c2=>have:=hb5.size;omega
 intro v6 w6 hb6 hc6
 rw[HKb.out]at hc6
 have hb16:=ae hbw (ae hb5 hb6)
 clear HF5 hc5 zw5 hb3 hb4 hb5 hb6 hbw z3
 obtain⟨wa,wc,rfl⟩:=hc6.shape
 have HKA:=Lib.hid (bU _ _ _ _ _ hb16 HKA.out)
 have HKB:=Lib.hid hc6
 have HO:=Lib.hid (au HO.out hb16)
 have HCu:=Lib.hid ((hb16.block _ (ah HCu.out)).trans HCu.out)
 have HR:=Lib.hid ((hb16.block _ (ah HR.out)).trans HR.out)
 have zs:=Nat.le_trans zs hb16.size
 have hV:=ae hV hb16
 have hbA:=ae hbA hb16
 clear hc6 hb16 f1 f2 f3 f4 f5a f5b
 go_wp2
 obtain⟨U,HU⟩:∃U,Hid ((w6.alloc (.cells #[.slice ka KA.length kc, .slice wa KB.length wc] 72)).alloc (.cells #[.slice (some ⟨w6.heap.size,0,none⟩) 2 2, .slice none 0 0] 75)=U):=⟨_,Lib.hid rfl⟩
 have hbU:Below w6.heap.size w6 U:=by rw[←HU.out];exact bel
 have hKO:KO W.heap.size [KA,KB] (.slice (some ⟨w6.heap.size,0,none⟩) 2 2) U:=by
  have hb1:Below w6.heap.size w6 (w6.alloc (.cells #[.slice ka KA.length kc, .slice wa KB.length wc] 72)):=bel
  have h:=kD (B:=W.heap.size) (W:=w6) [.slice ka KA.length kc, .slice wa KB.length wc] [KA,KB] (by omega) ⟨HKA.out,HKB.out,trivial⟩ hb1
  rw[←HU.out]
  exact db _ _ _ _ _ bel h
 have HD:Hid (DI W W.heap.size [(W.heap.size+1,#[.slice none 0 0, .slice none 0 0],75),(gl,cur,157)] (w6.heap.size+1) (KS 0) (GS 0) (.slice (some ⟨w6.heap.size,0,none⟩) 2 2) (.slice none 0 0) U):=Lib.hid (by
  have e1:KS 0=[KA,KB]:=by rw[←HKS.out,HD0.out];rfl
  have e2:GS 0=[]:=by rw[←HGG.out,HG0.out];split<;>rfl
  have zc:=ah HCu.out
  rw[e1,e2]
  obtain⟨vs,h1,h2,h3⟩:=hKO
  refine⟨ae hV hbU,Nat.le_refl _,by omega,fun x hx=> ?_,by rw[←HU.out];exact ai (by simp),⟨vs,h1,h2,h3,fun v _ b hb=>by simp[Value.ownBlock]at hb⟩,CO.nil⟩
  simp only[List.mem_cons,List.not_mem_nil,or_false]at hx
  rcases hx with rfl|rfl
  ·exact⟨(hbU.block _ (ah HR.out)).trans HR.out,by simp,by simp,by dsimp only;omega⟩
  ·exact⟨(hbU.block _ (ah HCu.out)).trans HCu.out,by simp,by simp,by dsimp only;omega⟩)
 rw[HU.out]
 obtain⟨g,Hg⟩:∃g,Hid (w6.heap.size+1=g):=⟨_,Lib.hid rfl⟩
 have zg:W.heap.size+1≠g:=by have:=Hg.out;omega
 obtain⟨LL,HLL⟩:∃LL,Hid ([(W.heap.size+1,#[.slice none 0 0, .slice none 0 0],75),(gl,cur,157)]=LL):=⟨_,Lib.hid rfl⟩
 rw[HLL.out]at HD
 rw[Hg.out]at HD ⊢
 have hL0:Hid ((W.heap.size+1,#[Value.slice none 0 0,Value.slice none 0 0],75)∈LL):=Lib.hid (by rw[←HLL.out];simp)
 have hL1:Hid ((gl,cur,157)∈LL):=Lib.hid (by rw[←HLL.out];simp)
 clear hKO hbU HU HLL Hg HKA HKB HO HCu HAt hV hbA HR zs HR1 HR2 HRa HRb HD0 HG0 k1
 go_loopw [80] (fun s80 wr=>∃i:Nat,i≤N∧s80= .int .i64 i∧∃kv gv,Hid (DI W W.heap.size LL g (KS i) (GS i) kv gv wr)) (fun s80 _=>N-(intOf s80).toNat)
 case atStart=>exact⟨0,by omega,rfl,_,_,HD⟩
 case round=>
  clear HD
  obtain⟨i,hi,rfl,kv,gv,HD⟩:=hrel
  obtain⟨ka,kc,rfl⟩:=HD.out.ko.shape rfl
  obtain⟨ga,gc,rfl⟩:=HD.out.gs.shape
  by_cases hlt:i<N
  ·have hq:=HQ.out wr (HD.out.at _ hL1.out) i (by rw[HLs.out];exact hlt)
   simp only[Nat.zero_add]at hq
   obtain⟨c0,c1⟩:=hq
   have hy:=HBs.out i
   have HSi:=Lib.hid (HSh.out i hlt)
   have HDi:=Lib.hid (HDs.out i)
   have HGi:=Lib.hid (HGs.out i)
   generalize hsY hs i=y at*
   generalize hsZ hs i=z at*
   generalize SN i=shp at*
   have zl:=World.block_lt_of_cell? wr _ c0
   simp only at zl
   have g1:(i:Int)<(N:Int):=by omega
   have g2:(0:Int)≤(i:Int):=by omega
   have f1:=fun W'=>Lib.hid (nG y z x1 x2 W' (by omega) (by omega) (by omega) (by omega))
   have Hsl:Hid (shp.length=8):=Lib.hid (by rw[HSi.out];rfl)
   rw[←HSi.out]at f1
   obtain⟨X,HX⟩:∃X,Hid (wr.alloc (.cells #[.int .i64 y, .int .i64 z] 157)=X):=⟨_,Lib.hid rfl⟩
   have hbX:Below wr.heap.size wr X:=by rw[←HX.out];exact bel
   have HD:=Lib.hid (HD.out.grow hbX)
   go_wp2_with fail
   rw[HX.out]
   refine((f1 _).out).mono ?_
   rintro en w7 ⟨v7,rfl,hb7,hp7⟩
   have HD:=Lib.hid (HD.out.grow hb7)
   have HS:=Lib.hid hp7
   obtain⟨sa,sc,rfl⟩:=hp7.shape
   have zW:=HD.out.below.size
   have Hgl:Hid (∀b,(Value.slice ga (GS i).length gc).ownBlock=some b→b<w7.heap.size):=Lib.hid (fun b h=>(lq HD.out.gs b h).2)
   have HLk:Hid ((KS i).length≤1002∧(GS i).length≤2000):=Lib.hid (by
    rw[←HKS.out, ←HGG.out]
    have:=HGl.out i
    refine⟨by simp;omega, ?_⟩
    split<;>(try simp)<;>omega)
   obtain⟨k0,k1,kf,kz⟩:=dC HD.out.out
   have k4:IntKind.i64.wrap (x0-x4)=x0-x4:=IntWalk.i64_in _ (by omega)
   have k5:IntKind.i64.wrap (x0+x3)=x0+x3:=IntWalk.i64_in _ (by omega)
   have k6:IntKind.i64.wrap (x0+x3+x5)=x0+x3+x5:=IntWalk.i64_in _ (by omega)
   have k7:IntKind.i64.wrap (x0-x4-x5)=x0-x4-x5:=IntWalk.i64_in _ (by omega)
   have f9:=fun cv lv W' hc hl=>Lib.hid (bC cv shp lv [btP 0 (x0-x4) (x0+x3)] W' hc hl (by simp) (by simp) (by have:=Hsl.out;simp[btP];omega))
   have f10:=fun cv lv W' hc hl=>Lib.hid (bC cv shp lv [btP 0 (x0+x3) (x0+x3+x5)] W' hc hl (by simp) (by simp) (by have:=Hsl.out;simp[btP];omega))
   have f11:=fun cv lv W' hc hl=>Lib.hid (bC cv shp lv [btP 0 (x0-x4-x5) (x0-x4)] W' hc hl (by simp) (by simp) (by have:=Hsl.out;simp[btP];omega))
   have e1: [shp,btP 0 (x0-x4) (x0+x3)].flatten=shp++btP 0 (x0-x4) (x0+x3):=by simp
   have e2: [shp,btP 0 (x0+x3) (x0+x3+x5)].flatten=shp++btP 0 (x0+x3) (x0+x3+x5):=by simp
   have e3: [shp,btP 0 (x0-x4-x5) (x0-x4)].flatten=shp++btP 0 (x0-x4-x5) (x0-x4):=by simp
   rw[e1]at f9
   rw[e2]at f10
   rw[e3]at f11
   generalize shp++btP 0 (x0-x4) (x0+x3)=K1 at*
   generalize shp++btP 0 (x0+x3) (x0+x3+x5)=K2 at*
   generalize shp++btP 0 (x0-x4-x5) (x0-x4)=K3 at*
   have f6:=f6
   have f7:=f7
   have f8:=f8
   generalize btP 0 (x0-x4) (x0+x3)=bt1 at*
   generalize btP 0 (x0+x3) (x0+x3+x5)=bt2 at*
   generalize btP 0 (x0-x4-x5) (x0-x4)=bt3 at*
   clear e1 e2 e3 hp7 hb7 HX hbX c0 c1 zl f1 kf
   go_wp2
   apply bW [] [0,1,2,3,4,5,6,7,8,9,10,11,12,13] 14 [] 15 [16] [sv _,sv _,sv _,sv _,sv _,sv _,sv _,sv _,sv _,sPO w7.heap.size bt1,sFO w7.heap.size [bt1],sPO w7.heap.size K1,sFO w7.heap.size [K1],⟨KF w7.heap.size [[K1]],by first|exact bT _ _|exact dF _ _|exact bU _ _|exact db _ _|exact yr _ _⟩] (fun _=>True) (by kernel_rfl) (by kernel_rfl) (by kernel_rfl) (fun _=>trivial)
   ·exact gR
   iterate 9 ((try go_frame);refine wkQ ?_)
   try go_frame
   refine wkU (fun u hR K hK=> ?_) (fun o9=> ?_)
   ·clear hR
    go_simp
    refine((f6 _).out).mono ?_
    rintro e w9 ⟨v9,rfl,hb9,hp9⟩
    exact hK _ _ hb9 (AY hp9 (by have:=u.size;omega))
   try go_frame
   refine wkU (fun u hR K hK=> ?_) (fun o10=> ?_)
   ·have h9:(PO w7.heap.size bt1) o9 u.val:=hr hR 9
    clear hR
    have zw:=u.size
    obtain⟨ya,yc,rfl⟩:=(h9).shape
    have H1:=Lib.hid h9
    clear h9
    go_simp
    exact hK _ _ bel (bi [_] [_] (by omega) ⟨H1.out,trivial⟩ bel)
   try go_frame
   refine wkU (fun u hR K hK=> ?_) (fun o11=> ?_)
   ·have h10:(FO w7.heap.size [bt1]) o10 u.val:=hr hR 10
    clear hR
    go_simp
    refine((f9 _ _ _ ((HS.out.planes.below u.below).mono (Nat.zero_le _)) (h10.2.cells.mono (Nat.zero_le _))).out).mono ?_
    rintro e w9 ⟨v9,rfl,hb9,hp9⟩
    exact hK _ _ hb9 (AY hp9 (by have:=u.size;omega))
   try go_frame
   refine wkU (fun u hR K hK=> ?_) (fun o12=> ?_)
   ·have h11:(PO w7.heap.size K1) o11 u.val:=hr hR 11
    clear hR
    have zw:=u.size
    obtain⟨ya,yc,rfl⟩:=(h11).shape
    have H1:=Lib.hid h11
    clear h11
    go_simp
    exact hK _ _ bel (bi [_] [_] (by omega) ⟨H1.out,trivial⟩ bel)
   try go_frame
   refine wkU (fun u hR K hK=> ?_) (fun o13=> ?_)
   ·have h12:(FO w7.heap.size [K1]) o12 u.val:=hr hR 12
    clear hR
    have zw:=u.size
    obtain⟨ya,yc,rfl⟩:=(h12).2.shape
    have H1:=Lib.hid (h12).2
    clear h12
    go_simp
    exact hK _ _ bel (zI [_] [_] (by omega) ⟨H1.out,trivial⟩ bel)
   try go_frame
   refine aI (fun u hR=> ?_)
   have HF:Hid (KF w7.heap.size [[K1]] o13 u.val):=Lib.hid (hR 13 (by simp))
   have HD1:=Lib.hid (HD.out.grow u.below)
   have HS1:=Lib.hid (HS.out.below u.below)
   have hbu:=u.below.size
   clear hR HD HS k0 k1 kz
   generalize u.val=wx at*
   clear u
   simp only[oas]
   refine jR HD1.out HF.out zW Hgl.out _ _ rfl rfl rfl rfl (by have:=HLk.out;omega) (by omega) fun kv' w' hsh hps hout hdi=> ?_
   refine⟨trivial, ?_⟩
   obtain⟨na,nc,rfl⟩:=hsh
   obtain⟨k0,k1,kf,kz⟩:=dC hout
   have kf0:=kf 0
   have HS:=Lib.hid (hps _ _ _ HS1.out)
   have HD:=Lib.hid hdi
   clear hps hdi HD1 HS1 HF kf hout
   simp only[oas]
   go_wp2
   refine NoPanic.normal ?_
   have HK1:Hid (KS i++[[K1]]=KS (i+1)):=Lib.hid (by rw[←HKS.out, ←HKS.out,HDi.out,List.append_assoc])
   rw[HK1.out]at HD
   clear k0 k1 kf0 kz f6 f9
   generalize w'.setCell ⟨g,0,none⟩ (.slice na ((KS i).length+1) nc)=wq at*
   have zW:=HD.out.below.size
   by_cases hz:x5=0
   ·have e5:GS i=GS (i+1):=by rw[←HGG.out, ←HGG.out,if_pos hz,if_pos hz]
    rw[e5]at HD
    clear e5
    go_wp2
    go_roundw
    case rel=>exact⟨i+1,by omega,by go_num,_,_,HD⟩
    case measure=>simp[intOf];omega
   ·have e5:Hid (GS i++[K2,K3]=GS (i+1)):=Lib.hid (by rw[←HGG.out, ←HGG.out,if_neg hz,if_neg hz,HGi.out])
    have hz1:(x5 !=0)=true:=by simpa using hz
    obtain⟨k0,k1,kf,kz⟩:=dC HD.out.out
    clear kf hz
    go_wp2
    apply bW [] [0,1,2,3,4,5,6,7,8,9,10,11,12,13,14,15,16,17,18,19,20,21,22,23,24,25,26] 27 [] 28 [29] [sv _,sv _,sv _,sv _,sv _,sv _,sv _,sv _,sv _,sv _,sv _,sPO W.heap.size bt2,sFO W.heap.size [bt2],sPO W.heap.size K2,sv _,sv _,sv _,sv _,sv _,sv _,sv _,sv _,sv _,sPO W.heap.size bt3,sFO W.heap.size [bt3],sPO W.heap.size K3,sFO W.heap.size [K2,K3]] (fun _=>True) (by kernel_rfl) (by kernel_rfl) (by kernel_rfl) (fun _=>trivial)
    ·exact gR
    iterate 11 ((try go_frame);refine wkQ ?_)
    try go_frame
    refine wkU (fun u hR K hK=> ?_) (fun o11=> ?_)
    ·clear hR
     go_simp
     refine((f7 _).out).mono ?_
     rintro e w9 ⟨v9,rfl,hb9,hp9⟩
     exact hK _ _ hb9 (AY hp9 (by have:=u.size;omega))
    try go_frame
    refine wkU (fun u hR K hK=> ?_) (fun o12=> ?_)
    ·have h11:(PO W.heap.size bt2) o11 u.val:=hr hR 11
     clear hR
     have zw:=u.size
     obtain⟨ya,yc,rfl⟩:=(h11).shape
     have H1:=Lib.hid h11
     clear h11
     go_simp
     exact hK _ _ bel (bi [_] [_] (by omega) ⟨H1.out,trivial⟩ bel)
    try go_frame
    refine wkU (fun u hR K hK=> ?_) (fun o13=> ?_)
    ·have h12:(FO W.heap.size [bt2]) o12 u.val:=hr hR 12
     clear hR
     go_simp
     refine((f10 _ _ _ ((HS.out.planes.below u.below).mono (Nat.zero_le _)) (h12.2.cells.mono (Nat.zero_le _))).out).mono ?_
     rintro e w9 ⟨v9,rfl,hb9,hp9⟩
     exact hK _ _ hb9 (AY hp9 (by have:=u.size;omega))
    iterate 9 ((try go_frame);refine wkQ ?_)
    try go_frame
    refine wkU (fun u hR K hK=> ?_) (fun o23=> ?_)
    ·clear hR
     go_simp
     refine((f8 _).out).mono ?_
     rintro e w9 ⟨v9,rfl,hb9,hp9⟩
     exact hK _ _ hb9 (AY hp9 (by have:=u.size;omega))
    try go_frame
    refine wkU (fun u hR K hK=> ?_) (fun o24=> ?_)
    ·have h23:(PO W.heap.size bt3) o23 u.val:=hr hR 23
     clear hR
     have zw:=u.size
     obtain⟨ya,yc,rfl⟩:=(h23).shape
     have H1:=Lib.hid h23
     clear h23
     go_simp
     exact hK _ _ bel (bi [_] [_] (by omega) ⟨H1.out,trivial⟩ bel)
    try go_frame
    refine wkU (fun u hR K hK=> ?_) (fun o25=> ?_)
    ·have h24:(FO W.heap.size [bt3]) o24 u.val:=hr hR 24
     clear hR
     go_simp
     refine((f11 _ _ _ ((HS.out.planes.below u.below).mono (Nat.zero_le _)) (h24.2.cells.mono (Nat.zero_le _))).out).mono ?_
     rintro e w9 ⟨v9,rfl,hb9,hp9⟩
     exact hK _ _ hb9 (AY hp9 (by have:=u.size;omega))
    try go_frame
    refine wkU (fun u hR K hK=> ?_) (fun o26=> ?_)
    ·have h13:(PO W.heap.size K2) o13 u.val:=hr hR 13
     have h25:(PO W.heap.size K3) o25 u.val:=hr hR 25
     clear hR
     have zw:=u.size
     obtain⟨ya,yc,rfl⟩:=(h13).shape
     obtain⟨xa,xc,rfl⟩:=(h25).shape
     have H1:=Lib.hid h13
     have H2:=Lib.hid h25
     clear h13 h25
     go_simp
     exact hK _ _ bel (bi [_,_] [_,_] (by omega) ⟨H1.out,H2.out,trivial⟩ bel)
    try go_frame
    refine aI (fun u hR=> ?_)
    have HF:Hid (FO W.heap.size [K2,K3] o26 u.val):=Lib.hid (hR 26 (by simp))
    have HD1:=Lib.hid (HD.out.grow u.below)
    have hbu:=u.below.size
    clear hR HD HS k0 k1 kz
    generalize u.val=wx at*
    clear u
    simp only[oas]
    refine bE HD1.out.gs HF.out _ _ rfl rfl rfl rfl (by have:=HLk.out;simp;omega) (by omega) fun v' w' hc' hg' ha'=> ?_
    obtain⟨hout,hdi⟩:=HD1.out.pushG hg' hc' ha'
    rw[e5.out]at hdi hc'
    have HD:=Lib.hid hdi
    obtain⟨na2,nc2,rfl⟩:=hc'.shape
    refine⟨trivial, ?_⟩
    obtain⟨k0,k1,kf,kz⟩:=dC hout
    have kf1:=kf 1
    clear hdi hc' hg' ha' HD1 HF kf hout
    simp only[oas]
    go_wp2
    refine NoPanic.normal ?_
    clear k0 k1 kf1 kz
    generalize w'.setCell ⟨g,1,none⟩ (.slice na2 (GS (i+1)).length nc2)=wy at*
    go_wp2
    go_roundw
    case rel=>exact⟨i+1,by omega,by go_num,_,_,HD⟩
    case measure=>simp[intOf];omega
  ·obtain rfl:i=N:=by omega
   have HR:=Lib.hid (HD.out.at _ hL0.out)
   obtain⟨x0',x1',xf,xz⟩:=dC HD.out.out
   obtain⟨r0,r1,rf,rz⟩:=dC HR.out
   have rf0:=rf 0
   have rf1:=rf 1
   have g1:¬(i:Int)<(i:Int):=by omega
   clear xf rf
   go_wp2
   refine bodyPost_ret (v:= .agg #[.slice ka (KS i).length kc, .slice ga (GS i).length gc]) (by simp[results,Tryz.results84,go_sem,r0,r1]) rfl ⟨_,_,rfl, ?_, ?_, ?_⟩
   ·exact(HD.out.below.setCell (by simp) _).setCell (by simp) _
   ·exact(HD.out.ko.put HR.out _ _).parts
   ·exact(HD.out.gs.put HR.out _ _).cells
theorem un (l w t:Int) (nv:Value) (n:List Int) (W:World) (hn:Ints W nv n) (hl8:8≤n.length) (h2:n.length % 2=0) (hlm:n.length≤1000) (hb:∀i, -100000≤n.getD i 0∧n.getD i 0≤100000):
  Calls Tryz.prog 31 #[vJ 8 l w t nv] W (cW W (aR 8 l w n) (bR 8 l n)):=by
 have hc:=fun V (h:Below W.heap.size W V)=>Lib.hid (oH l w t nv n V (hn.below h) hl8 h2 hlm hb)
 generalize aR 8 l w n=ks at*
 generalize bR 8 l n=gs at*
 unfold vJ
 obtain⟨a,m,c,rfl,hm0,hc0,hx⟩:=id hn
 obtain⟨V,HV⟩:∃V,Hid ((W.alloc (.cells #[.int .i64 8, .int .i64 l, .int .i64 w, .int .i64 t, .slice a m c] 25)).alloc (.cells #[.slice none 0 0, .slice none 0 0] 75)=V):=⟨_,Lib.hid rfl⟩
 have hV:Below W.heap.size W V:=by rw[←HV.out];exact bel
 have HJ:Hid (V.heap[W.heap.size]? =some (.cells #[.int .i64 8, .int .i64 l, .int .i64 w, .int .i64 t, .slice a m c] 25 (0,0))):=by rw[←HV.out];exact Lib.hid ((aB (by simp)).trans (ai rfl))
 have HR:Hid (V.heap[W.heap.size+1]? =some (.cells #[.slice none 0 0, .slice none 0 0] 75 (0,0))):=by rw[←HV.out];exact Lib.hid (ai (by simp))
 have zV:W.heap.size+2≤V.heap.size:=by rw[←HV.out];simp
 have HF:=Lib.hid ((hc V hV).out)
 obtain⟨j0,j1,j2,j3,j4,_,jz⟩:=bM HJ.out
 clear hn hx
 go_enter Tryz.func31,Tryz.ntmps31
 go_wp2_with fail
 rw[HV.out]
 refine(HF.out).mono ?_
 rintro e w1 ⟨u,gv,rfl,hb1,hp,hg⟩
 have HP:=Lib.hid hp
 have HG:=Lib.hid hg
 obtain⟨ua,um,uc,rfl⟩:=et hp
 obtain⟨ga,gm,gc,rfl⟩:=dY hg
 have HR1:=Lib.hid ((hb1.block _ (ah HR.out)).trans HR.out)
 obtain⟨r0,r1,rf,rz⟩:=dC HR1.out
 have rf0:=rf 0
 have rf1:=rf 1
 clear hp hg rf j0 j1 j2 j3 j4 jz HJ HR HF
 go_wp2
 refine bodyPost_ret (v:= .agg #[.slice ua um uc, .slice ga gm gc]) (by simp[results,Tryz.results31,go_sem,r0,r1]) rfl ⟨_,rfl, ?_,_,_,rfl, ?_, ?_⟩
 ·exact((ae hV hb1).setCell (by simp) _).setCell (by simp) _
 ·exact((HP.out.far (by omega)).far (by omega)).mono (Nat.zero_le _)
 ·exact((HG.out.far (by omega)).far (by omega)).mono (Nat.zero_le _)
end
section
section
variable {α:Type} (le:α→α→Bool)
def mgF:Nat→List α→List α→List α
 |0,xs,ys=>xs++ys
 |_+1,[],ys=>ys
 |_+1,xs,[]=>xs
 |f+1,x::xs,y::ys=>if le x y then x::mgF f xs (y::ys)else y::mgF f (x::xs) ys
theorem rR:∀(f:Nat) (xs ys:List α),xs.length+ys.length≤f→List.merge xs ys le=mgF le f xs ys
 |0,xs,ys,h=>by
  obtain rfl:xs=[]:=List.length_eq_zero_iff.1 (by omega)
  obtain rfl:ys=[]:=List.length_eq_zero_iff.1 (by omega)
  simp[mgF]
 |f+1,[],ys,_=>by simp[mgF]
 |f+1,x::xs,[],_=>by simp[mgF]
 |f+1,x::xs,y::ys,h=>by
  rw[List.cons_merge_cons]
  simp only[mgF]
  split
  ·rw[rR f xs (y::ys) (by simp at h ⊢;omega)]
  ·rw[rR f (x::xs) ys (by simp at h ⊢;omega)]
def msF:Nat→List α→List α
 |0,l=>l
 |_+1,[]=>[]
 |_+1,[a]=>[a]
 |f+1,a::b::xs=>let l:=a::b::xs;mgF le l.length (msF f (l.take ((l.length+1) / 2))) (msF f (l.drop ((l.length+1) / 2)))
theorem lL:∀(f:Nat) (l:List α),l.length≤f→l.mergeSort le=msF le f l
 |0,l,h=>by
  obtain rfl:l=[]:=List.length_eq_zero_iff.1 (by omega)
  simp[msF]
 |f+1,[],_=>by simp[msF]
 |f+1,[a],_=>by simp[msF]
 |f+1,a::b::xs,h=>by
  rw[List.mergeSort]
  simp only[msF,List.MergeSort.Internal.splitInTwo_fst,List.MergeSort.Internal.splitInTwo_snd]
  have h1:((a::b::xs).take (((a::b::xs).length+1) / 2)).length≤f:=by simp at h ⊢;omega
  have h2:((a::b::xs).drop (((a::b::xs).length+1) / 2)).length≤f:=by simp at h ⊢;omega
  rw[←lL f _ h1, ←lL f _ h2, ←rR le _ _ _ (by simp;omega)]
end
end
section
open Go.RowKit
set_option maxRecDepth 100000
theorem uo (cs:List Q4):ed cs=msF (fun x y=> !decide (iO y x<0)) cs.length cs:=lL _ _ _ (Nat.le_refl _)
theorem uq (cs:List Q4):iP cs=msF (fun x y=> !decide (bD y x<0)) cs.length cs:=lL _ _ _ (Nat.le_refl _)
theorem ur:dr 4000 4000 2000 [axP 2 (-1) (-1000)]=[(-1,0,0,0),(0, -1,0,0),(0,0, -1, -1000),(0,0,1,2000),(0,1,0,4000),(1,0,0,4000)]:=by
 simp only[dr,jB,bK,iS,ii,aS,uo,uq]
 kernel_rfl
theorem ut:Bm 0 4000 4000 2000 [1000]=⟨#[108,97,112,32,52,48,48,48,32,52,48,48,48,32,50,48,48,48,32,49,48,48,48]⟩:=by kernel_rfl
theorem uv:(Lib.join ((fi 0 4000 4000 2000 [1000]).map (·.data.toList)) [32]).length≤1000000:=by
 have:(Lib.join ((fi 0 4000 4000 2000 [1000]).map (·.data.toList)) [32]).length=23:=by kernel_rfl
 omega
theorem wO:bF 1200 6000 [6,2000,2000]=true:=by kernel_rfl
end
section
open Go.RowKit Go.Shelf
attribute [local go_sem] Ext.cell Ext.frozen
set_option maxRecDepth 100000
theorem nI (W:World) (nv:Value) (hn:Ints W nv [1000]):Calls Tryz.prog 48 #[vJ 0 4000 4000 2000 nv] W (Ret W (.int .i64 0)):=
 kj 0 4000 4000 2000 nv [1000] true W hn (by decide) (fun _ _ _ _ _ W' hb=>sm 4000 4000 2000 nv [1000] W' (hn.below hb) rfl)
theorem rS (W:World) (nv:Value) (hn:Ints W nv [6,2000,2000]):Calls Tryz.prog 48 #[vJ 5 1200 6000 2000 nv] W (Ret W (.int .i64 0)):=
 kj 5 1200 6000 2000 nv [6,2000,2000] true W hn (by decide) (fun _ _ _ _ _ W' hb=>(by
  have:=sr 1200 6000 2000 nv [6,2000,2000] W' (hn.below hb) (by decide) (by decide) (by decide) (by decide)
  rwa [wO]at this))
theorem wP {w:World} {base:Nat} {e:TypeId} {v:Value} {vs:List Value} (h:w.ownsRow base e 1 v 1 vs):∃g c x,v= .slice (some ⟨g,0,none⟩) 1 c∧vs=[x]∧g<w.heap.size∧w.cell? ⟨g,0,none⟩=some x:=by
 obtain⟨x,rfl⟩:∃x,vs=[x]:=List.length_eq_one_iff.1 (by have:=h.1;omega)
 rcases h.2 with⟨_,h1⟩|⟨g,cap,cur,rfl,_,hh,_,_,_,ht⟩
 ·omega
 ·refine⟨g,cap,x,rfl,rfl,ah hh, ?_⟩
  rw[ag hh]
  have h2:(cur.toList.take 1)[0]? =some x:=by rw[show(1:Nat)=1*1 from rfl,ht];rfl
  rw[List.getElem?_take_of_lt (by omega)]at h2
  simpa using h2
theorem nJ:∀(ps:List Q4) (i:Nat) (hi:i<ps.length) (j:Nat),j<4→(ps.flatMap aH)[i*4+j]? =(aH ps[i])[j]?
 |p::ps,0,_,j,hj=>by
  rw[List.flatMap_cons,List.getElem?_append_left (by simp[aH];omega)]
  simp
 |p::ps,i+1,hi,j,hj=>by
  rw[List.flatMap_cons,List.getElem?_append_right (by simp[aH];omega),show(i+1)*4+j-(aH p).length=i*4+j by simp[aH];omega]
  simpa using nJ ps i (by simpa using hi) j hj
theorem yt {W:World} {T:TypeId} (ps:List Q4) {n g:Nat} (hg:g=W.heap.size) (hn:n=ps.length):Q4s (W.alloc (.cells (ps.flatMap aH).toArray T)) (.slice (some ⟨g,0,none⟩) n n) ps:=by
 subst hn
 refine⟨_,_,_,rfl,rfl,Nat.le_refl _,fun _=>⟨g,0,rfl,fun i hi=> ?_⟩⟩
 have key:∀j,j<4→(W.alloc (.cells (ps.flatMap aH).toArray T)).cell? ⟨g,i*4+j,none⟩=(aH ps[i])[j]? :=fun j hj=>by
  rw[aq hg]
  simp only[List.getElem?_toArray]
  exact nJ ps i hi j hj
 rw[Nat.zero_add]
 exact⟨(key 0 (by omega)).trans rfl,(key 1 (by omega)).trans rfl,(key 2 (by omega)).trans rfl,(key 3 (by omega)).trans rfl⟩
theorem uw (W:World) (htab:Lib.TabIs Tryz.prog W "internal/strconv.uint64pow10" .u64 Lib.pow10Tab):Calls Tryz.prog 6 #[] W (Ret W (.bool true)):=by
 obtain⟨W1,HW1⟩:∃W1,Hid ((W.alloc (.cells #[.int .i64 1000] 3)).alloc (.cells #[.int .i64 0, .int .i64 4000, .int .i64 4000, .int .i64 2000, .slice (some ⟨W.heap.size,0,none⟩) 1 1] 25)=W1):=⟨_,Lib.hid rfl⟩
 have hW1:Below W.heap.size W W1:=by rw[←HW1.out];exact bel
 have hI1:Ints W1 (.slice (some ⟨W.heap.size,0,none⟩) 1 1) [1000]:=by
  rw[←HW1.out];exact(aX (T:=3) [1000] rfl).below bel
 have HB1:Hid (W1.heap[W.heap.size+1]? =some (.cells #[.int .i64 0, .int .i64 4000, .int .i64 4000, .int .i64 2000, .slice (some ⟨W.heap.size,0,none⟩) 1 1] 25 (0,0))):=Lib.hid (by rw[←HW1.out];exact ai (by simp))
 have hP:=Lib.hid (vo 0 4000 4000 2000 _ [1000] W1 hI1 (by decide) (by decide) (by decide) (by decide) (kl htab hW1) (fun W' hb=>nI W' _ (hI1.below hb)) uv)
 rw[ut]at hP
 have HI1:=Lib.hid hI1
 clear hI1 htab
 go_enter Tryz.func6,Tryz.ntmps6
 go_wp2_with fail
 rw[HW1.out]
 refine(hP.out).mono ?_
 rintro e w2 ⟨rfl,hb2⟩
 clear hP
 have hW2:=ae hW1 hb2
 have HI2:=Lib.hid (HI1.out.below hb2)
 have HB2:Hid (w2.heap[W.heap.size+1]? =_):=Lib.hid ((hb2.block _ (ah HB1.out)).trans HB1.out)
 have hA:=Lib.hid (yU 1200 6000 2000 _ [6,2000,2000] (w2.alloc (.cells #[.int .i64 6, .int .i64 2000, .int .i64 2000] 3)) (aX (T:=3) [6,2000,2000] rfl) (by decide) (by decide) (by decide) (by decide) (by decide) (fun W' hb=>rS W' _ ((aX (T:=3) [6,2000,2000] rfl).below hb)))
 rw[show(2*(((([6,2000,2000]:List Int).length-2:Nat)):Int)*(1200 / ([6,2000,2000]:List Int).getD 0 0)*2000)=800000 by decide,show(2*(((([6,2000,2000]:List Int).length-2:Nat)):Int)*1200*2000)=4800000 by decide]at hA
 clear HI1 HB1 HW1 hb2 hW1
 go_wp2_with fail
 refine(hA.out).mono ?_
 rintro e w3 ⟨rfl,hb3⟩
 clear hA
 have hb23:Below w2.heap.size w2 w3:=ae bel hb3
 have hW3:=ae hW2 hb23
 have HB3:Hid (w3.heap[W.heap.size+1]? =_):=Lib.hid ((hb23.block _ (ah HB2.out)).trans HB2.out)
 obtain⟨w4,HW4⟩:∃w4,Hid (w3.alloc (.cells #[.int .i64 800000, .int .i64 4800000, .int .i64 0] 22)=w4):=⟨_,Lib.hid rfl⟩
 have hb34:Below w3.heap.size w3 w4:=by rw[←HW4.out];exact bel
 have HI4:=Lib.hid ((HI2.out.below hb23).below hb34)
 have HB4:Hid (w4.heap[W.heap.size+1]? =_):=Lib.hid ((hb34.block _ (ah HB3.out)).trans HB3.out)
 have HA4:Hid (w4.heap[w3.heap.size]? =some (.cells #[.int .i64 800000, .int .i64 4800000, .int .i64 0] 22 (0,0))):=Lib.hid (by rw[←HW4.out];exact ai rfl)
 have hW4:=ae hW3 hb34
 have hK:=Lib.hid (qo 0 4000 4000 2000 0 _ [1000] [[[axP 2 (-1) (-1000)]],[[axP 2 1 1000]]] w4 (by decide) (by decide) (by decide) (by decide) (by decide) (by decide) (by decide) HI4.out
  (fun W' hb=>fm 0 4000 4000 2000 0 0 _ [1000] W' (HI4.out.below hb) (by decide) (fun W'' hb'=>nI W'' _ ((HI4.out.below hb).below hb')) (by decide))
  (fun W' hb=>(ns 4000 4000 2000 _ [1000] W' (HI4.out.below hb) rfl (by decide)).mono (fun e w' ⟨u,he,hb',hp⟩=>⟨_,he,hb',u,_,_,_,rfl,hp.mono (Nat.zero_le _)⟩)))
 have b0:=(ag HB3.out 0).trans rfl
 have b1:=(ag HB3.out 1).trans rfl
 have b2:=(ag HB3.out 2).trans rfl
 have b3:=(ag HB3.out 3).trans rfl
 have b4:=(ag HB3.out 4).trans rfl
 simp only[List.getElem?_toArray,List.getElem?_cons_zero,List.getElem?_cons_succ]at b0 b1 b2 b3 b4
 have z3:=ah HB3.out
 go_wp2_with fail
 rw[HW4.out]
 refine(hK.out).mono ?_
 rintro e w5 ⟨s,vs,rfl,hb5,ho5,hr5⟩
 clear hK
 obtain⟨g,cap,x,rfl,rfl,zg,cg⟩:=wP ho5
 have hq:=dV (hr5.2 0 (by simp) (by simp))
 simp only[List.map_cons,List.map_nil,List.getElem_cons_zero]at hq
 rw[ur]at hq
 have HQ:=Lib.hid hq
 have HA5:=Lib.hid ((hb5.block _ (ah HA4.out)).trans HA4.out)
 have hW5:=ae hW4 hb5
 obtain⟨xa,xm,xc,rfl,_⟩:=hq
 clear ho5 hr5 hb5 HI4 HB4 HA4 hW4 hb34 HW4 b0 b1 b2 b3 b4 z3 HB3 hW3 hb23 hb3 HI2 HB2 hW2
 have a0:=(ag HA5.out 0).trans rfl
 have a1:=(ag HA5.out 1).trans rfl
 have a2:=(ag HA5.out 2).trans rfl
 simp only[List.getElem?_toArray,List.getElem?_cons_zero,List.getElem?_cons_succ]at a0 a1 a2
 have za:=ah HA5.out
 have hE:=fun w=>nL 800000 4800000 0 800000 4800000 0 w
 simp only[beq_self_eq_true,Bool.and_self]at hE
 obtain⟨ps,Hps⟩:∃ps:List Q4,Hid ([(-1,0,0,0),(0, -1,0,0),(0,0, -1, -1000),(0,0,1,2000),(0,1,0,4000),(1,0,0,4000)]=ps):=⟨_,Lib.hid rfl⟩
 go_wp2_with fail
 refine(jP _ _ ps ps _ ((by rw[←Hps.out];exact HQ.out:Q4s w5 (.slice xa xm xc) ps).below bel) (by rw[←Hps.out];exact yt [(-1,0,0,0),(0, -1,0,0),(0,0, -1, -1000),(0,0,1,2000),(0,1,0,4000),(1,0,0,4000)] (by simp) rfl) (by rw[←Hps.out];decide)).mono ?_
 rintro e w6 ⟨rfl,hb6⟩
 clear HQ
 have h6:=ae (show Below W.heap.size W _ from ae hW5 bel) hb6
 go_wp2
 go_ret
 exact⟨ay (by simp),h6⟩
end
end Go.Proofs.YtokhkhnofkcalaaGreatDoor
