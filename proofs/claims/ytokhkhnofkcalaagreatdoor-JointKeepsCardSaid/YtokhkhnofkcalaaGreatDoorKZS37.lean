/- texts: X7. -/
import Derived.Test.YtokhkhnofkcalaaGreatDoorKZS28
namespace Go.Proofs.YtokhkhnofkcalaaGreatDoor
set_option maxHeartbeats 8000000
set_option linter.unusedSimpArgs false
set_option linter.unusedVariables false
section
open Go.RowKit Go.Shelf
set_option maxRecDepth 100000
attribute [local go_sem] Ext.cell Ext.frozen
def PO (B:Nat) (ps:List Q4):Value→World→Prop:=fun v w=>w.ownsRow B 69 4 v ps.length (ps.flatMap aH)
def CO (B:Nat) (cs:List (List Q4)):Value→World→Prop:=fun v w=>∃vs,w.ownsRow B 104 1 v cs.length vs∧RowsV w B vs cs
def KO (B:Nat) (ks:List (List (List Q4))):Value→World→Prop:=fun v w=>∃vs,w.ownsRow B 72 1 v ks.length vs∧vs.length=ks.length∧∀i (h1:i<vs.length) (h2:i<ks.length),CO B ks[i] vs[i] w
def FO (B:Nat) (cs:List (List Q4)):Value→World→Prop:=fun v w=>(∃g,v= .slice (some ⟨g,0,none⟩) cs.length cs.length)∧CO B cs v w
theorem bT (B:Nat) (ps:List Q4):dR (PO B ps):=fun _ _ _ hb h=>au h hb
theorem bU (B:Nat) (cs:List (List Q4)):dR (CO B cs):=fun _ _ _ hb ⟨vs,h1,h2⟩=>⟨vs,au h1 hb,h2.below hb⟩
theorem db (B:Nat) (ks:List (List (List Q4))):dR (KO B ks):=fun _ _ _ hb ⟨vs,h1,h2,h3⟩=>⟨vs,au h1 hb,h2,fun i a b=>bU B _ _ _ _ hb (h3 i a b)⟩
theorem dF (B:Nat) (cs:List (List Q4)):dR (FO B cs):=fun _ _ _ hb ⟨h,k⟩=>⟨h,bU B _ _ _ _ hb k⟩
def sPO (B:Nat) (ps:List Q4):SP:=⟨PO B ps,bT B ps⟩
def sFO (B:Nat) (cs:List (List Q4)):SP:=⟨FO B cs,dF B cs⟩
def sCO (B:Nat) (cs:List (List Q4)):SP:=⟨CO B cs,bU B cs⟩
def sKO (B:Nat) (ks:List (List (List Q4))):SP:=⟨KO B ks,db B ks⟩
theorem PO.mono {B B':Nat} {ps:List Q4} {v:Value} {w:World} (h:PO B ps v w) (hb:B'≤B):PO B' ps v w:=AY h hb
theorem PO.below {B:Nat} {ps:List Q4} {v:Value} {w w':World} (h:PO B ps v w) (hb:Below w.heap.size w w'):PO B ps v w':=au h hb
theorem CO.mono {B B':Nat} {cs:List (List Q4)} {v:Value} {w:World} (h:CO B cs v w) (hb:B'≤B):CO B' cs v w:=by obtain⟨vs,h1,h2⟩:=h;exact⟨vs,AY h1 hb,h2.mono hb⟩
theorem KO.mono {B B':Nat} {ks:List (List (List Q4))} {v:Value} {w:World} (h:KO B ks v w) (hb:B'≤B):KO B' ks v w:=by obtain⟨vs,h1,h2,h3⟩:=h;exact⟨vs,AY h1 hb,h2,fun i a b=>(h3 i a b).mono hb⟩
theorem CO.set {B g i:Nat} {u:Value} {cs:List (List Q4)} {v:Value} {w:World} {c:Array Value} {T:TypeId} (h:CO B cs v w) (hg:w.heap[g]? =some (.cells c T (0,0))) (h1:69≠T) (h2:104≠T):CO B cs v (w.setCell ⟨g,i,none⟩ u):=by
 obtain⟨vs,ho,hr⟩:=h
 exact⟨vs,aF ho _ _ (fun e=>aG ho hg h2 e.symm),hr.set hg h1⟩
theorem KO.set {B g i:Nat} {u:Value} {ks:List (List (List Q4))} {v:Value} {w:World} {c:Array Value} {T:TypeId} (h:KO B ks v w) (hg:w.heap[g]? =some (.cells c T (0,0))) (h1:69≠T) (h2:104≠T) (h3:72≠T):KO B ks v (w.setCell ⟨g,i,none⟩ u):=by
 obtain⟨vs,ho,hl,hr⟩:=h
 exact⟨vs,aF ho _ _ (fun e=>aG ho hg h3 e.symm),hl,fun i a b=>(hr i a b).set hg h1 h2⟩
theorem PO.planes {B:Nat} {ps:List Q4} {v:Value} {w:World} (h:PO B ps v w):PlanesV B w v ps:=iv h
theorem qi {B:Nat} {cs:List (List Q4)} {vs:List Value} {w:World} (h:RowsV w B vs cs):∀i (h1:i<vs.length) (h2:i<cs.length),PlanesV B w vs[i] cs[i]:=fun i h1 h2=>iv (h.2 i h1 h2)
theorem CO.cells {B:Nat} {cs:List (List Q4)} {v:Value} {w:World} (h:CO B cs v w):CellsV B w v cs:=by
 obtain⟨vs,ho,hr⟩:=h
 exact tT ho hr.1 (qi hr)
theorem KO.parts {B:Nat} {ks:List (List (List Q4))} {v:Value} {w:World} (h:KO B ks v w):PartsV B w v ks:=by
 obtain⟨vs,ho,hl,hp⟩:=h
 have hlen:=ho.1
 rcases ho.2 with⟨rfl,h0⟩|⟨g,cap,cur,rfl,hb,hh,hnc,hcm,hcs,htk⟩
 ·obtain rfl:ks=[]:=List.length_eq_zero_iff.1 (by omega)
  exact⟨⟨none,0,0,rfl,rfl,Nat.le_refl _,fun h=>absurd h (by omega)⟩,At.none'⟩
 ·refine⟨⟨_,_,_,rfl,by omega,hnc,fun _=>⟨g,0,rfl,fun i hi=> ?_⟩⟩,At.mk hb⟩
  have hiu:i<vs.length:=by omega
  refine⟨vs[i], ?_,(hp i hiu hi).cells⟩
  rw[Nat.zero_add,ag hh]
  have e:vs[i]? =some vs[i]:=List.getElem?_eq_getElem hiu
  generalize vs[i]=ui at*
  rw[←htk,List.getElem?_take]at e
  split at e
  ·simpa using e
  ·cases e
theorem PO.shape {B:Nat} {ps:List Q4} {v:Value} {w:World} (h:PO B ps v w):∃a c,v= .slice a ps.length c:=aT h
theorem CO.shape {B:Nat} {cs:List (List Q4)} {v:Value} {w:World} (h:CO B cs v w):∃a c,v= .slice a cs.length c:=by obtain⟨vs,h,_⟩:=h;exact aT h
theorem KO.shape {B n:Nat} {ks:List (List (List Q4))} {v:Value} {w:World} (h:KO B ks v w) (hn:ks.length=n:=by rfl):∃a c,v= .slice a n c:=by subst hn;obtain⟨vs,h,_⟩:=h;exact aT h
def Alls {α:Type} (P:α→Value→World→Prop) (w:World):List Value→List α→Prop
 | [],[]=>True
 |v::vs,c::cs=>P c v w∧Alls P w vs cs
 |_,_=>False
theorem Alls.len {α:Type} {P:α→Value→World→Prop} {w:World}:∀{vs:List Value} {cs:List α},Alls P w vs cs→vs.length=cs.length
 | [],[],_=>rfl
 |_::_,_::_,h=>by rw[List.length_cons,List.length_cons,Alls.len h.2]
 | [],_::_,h=>h.elim
 |_::_,[],h=>h.elim
theorem Alls.at {α:Type} {P:α→Value→World→Prop} {w:World}:∀{vs:List Value} {cs:List α},Alls P w vs cs→∀i (h1:i<vs.length) (h2:i<cs.length),P cs[i] vs[i] w
 | [],[],_,i,h1,_=>by simp at h1
 |_::_,_::_,h,0,_,_=>h.1
 |_::_,_::_,h,i+1,h1,h2=>Alls.at h.2 i (by simpa using h1) (by simpa using h2)
 | [],_::_,h,_,_,_=>h.elim
 |_::_,[],h,_,_,_=>h.elim
theorem oC {B:Nat} {W:World} {T:TypeId} (vs:List Value) (n size:Nat) (hB:B≤W.heap.size) (hs:vs.length=n*size) (hn:n≤1000000):(W.alloc (.cells vs.toArray T)).ownsRow B T size (.slice (some ⟨W.heap.size,0,none⟩) n n) n vs:=by
 have:=World.ownsRow_lit (base:=B) (e:=T) (size:=size) W vs.toArray n hB (by unfold maxLen;omega) (by simpa using hs)
 simpa using this
theorem cF {B:Nat} {W:World} (ps:List Q4) (hB:B≤W.heap.size) (hn:ps.length≤1000000:=by simp):PO B ps (.slice (some ⟨W.heap.size,0,none⟩) ps.length ps.length) (W.alloc (.cells (ps.flatMap aH).toArray 69)):=
 oC (ps.flatMap aH) ps.length 4 hB (bh ps) hn
theorem jO {B g:Nat} {W:World} (ps:List Q4) (hg:g=W.heap.size) (hB:B≤W.heap.size) (hn:ps.length≤1000000:=by simp):PO B ps (.slice (some ⟨g,0,none⟩) ps.length ps.length) (W.alloc (.cells (ps.flatMap aH).toArray 69)):=by
 subst hg
 exact cF ps hB hn
theorem bi {B:Nat} {W:World} (vs:List Value) (cs:List (List Q4)) (hB:B≤W.heap.size) (h:Alls (PO B) W vs cs) (hb:Below W.heap.size W (W.alloc (.cells vs.toArray 104))) (hn:cs.length≤1000000:=by simp):FO B cs (.slice (some ⟨W.heap.size,0,none⟩) cs.length cs.length) (W.alloc (.cells vs.toArray 104)):=
 ⟨⟨_,rfl⟩,vs,oC vs cs.length 1 hB (by rw[h.len];simp) hn,h.len,fun i h1 h2=>bT _ _ _ _ _ hb (h.at i h1 h2)⟩
theorem kD {B:Nat} {W:World} (vs:List Value) (ks:List (List (List Q4))) (hB:B≤W.heap.size) (h:Alls (CO B) W vs ks) (hb:Below W.heap.size W (W.alloc (.cells vs.toArray 72))) (hn:ks.length≤1000000:=by simp):KO B ks (.slice (some ⟨W.heap.size,0,none⟩) ks.length ks.length) (W.alloc (.cells vs.toArray 72)):=
 ⟨vs,oC vs ks.length 1 hB (by rw[h.len];simp) hn,h.len,fun i h1 h2=>bU _ _ _ _ _ hb (h.at i h1 h2)⟩
theorem zF {B:Nat} {W:World} {v xv:Value} {cs ds:List (List Q4)} {ty:TypeId} (hB:B≤W.heap.size) (hv:FO B cs v W) (hx:FO B ds xv W) (h0:0<ds.length) (hlen:cs.length+ds.length≤100000):
  ∃v' w',(Builtin.append_ #[72,72] ty #[v,xv]).run Tryz.prog W= .ok v' w'∧Below W.heap.size W w'∧CO B (cs++ds) v' w':=by
 obtain⟨i0,hi0,hz0,hz1,hz2⟩:=info_parts gT
 obtain⟨⟨g,rfl⟩,us,hu1,hu2⟩:=hv
 obtain⟨⟨g2,rfl⟩,ws,hw1,hw2⟩:=hx
 obtain⟨v',w',h1,h2,h3⟩:=dM (P:=Tryz.prog) (w:=W) 72 ty 104 i0 (.slice none 0 0) 1 24 gU hi0 hz0 hz1 hz2 rfl (by decide) ⟨g,0,none⟩ cs.length cs.length us hu1.1 (hu1.cells rfl) ⟨g2,0,none⟩ ds.length ds.length ws hw1.1 (hw1.cells rfl) (by omega) (by unfold maxLen;omega) (by omega)
 refine⟨v',w',h1,h3,us++ws, ?_,by simp[hu2.1,hw2.1],fun i h4 h5=> ?_⟩
 ·rw[List.length_append]
  exact AY h2 hB
 ·by_cases hi:i<us.length
  ·have hc:i<cs.length:=by rw[←hu2.1];exact hi
   rw[List.getElem_append_left hi,List.getElem_append_left hc]
   exact au (hu2.2 i hi hc) h3
  ·have hc:¬i<cs.length:=by rw[←hu2.1];exact hi
   rw[List.getElem_append_right (by omega),List.getElem_append_right (by omega)]
   have:=hw2.2 (i-us.length) (by simp at h4;omega) (by have:=hu2.1;simp at h5;omega)
   have e:=hu2.1
   simp only[e]at this ⊢
   exact au this h3
theorem bO (ax:Nat) (lo hi:Int) (W:World) (hx:ax≤2) (hlo: -1000000000≤lo∧lo≤1000000000) (hhi: -1000000000≤hi∧hi≤1000000000):
  Calls Tryz.prog 72 #[.int .i64 ax, .int .i64 lo, .int .i64 hi] W fun e w'=>∃r,e= .returned r∧Below W.heap.size W w'∧PO W.heap.size (btP ax lo hi) r w':=by
 have h1:=fun W'=>Lib.hid (bX ax lo W' hx hlo)
 have h2:=fun W'=>Lib.hid (cR ax hi W' hx hhi)
 have hk:btP ax lo hi=[axP ax (-1) (-lo),axP ax 1 hi]:=rfl
 rw[hk]
 generalize axP ax (-1) (-lo)=p at*
 generalize axP ax 1 hi=q at*
 obtain⟨p1,p2,p3,p4⟩:=p
 obtain⟨q1,q2,q3,q4⟩:=q
 clear hk
 go_enter Tryz.func72,Tryz.ntmps72
 go_wp2_with fail
 refine((h1 _).out).mono ?_
 rintro e w1 ⟨rfl,hb1⟩
 go_wp2_with fail
 refine((h2 _).out).mono ?_
 rintro e w2 ⟨rfl,hb2⟩
 have hz:=(ae hb1 hb2).size
 go_wp2
 go_ret
 exact⟨_,rfl,ae (ae hb1 hb2) bel,cF [(p1,p2,p3,p4),(q1,q2,q3,q4)] hz⟩
theorem bC (cv:Value) (pc:List Q4) (lv:Value) (pls:List (List Q4)) (W:World) (hc:PlanesV 0 W cv pc) (hl:CellsV 0 W lv pls) (h0:0<pls.length) (hn:pls.length≤1000) (hps:(pc::pls).flatten.length≤1000):
  Calls Tryz.prog 77 #[cv,lv] W fun e w'=>∃r,e= .returned r∧Below W.heap.size W w'∧PO W.heap.size (pc::pls).flatten r w':=
 (nE cv pc lv pls W hc hl h0 hn hps).mono (by
  rintro e w' ⟨r,n,rfl,hb,ho⟩
  have h1:=ho.1
  rw[bh]at h1
  obtain rfl:n=(pc::pls).flatten.length:=by omega
  exact⟨r,rfl,hb,ho⟩)
def KGO (B:Nat) (ks:List (List (List Q4))):Value→World→Prop:=fun v w=>∃u,v= .agg #[u, .slice none 0 0]∧KO B ks u w
theorem dS (B:Nat) (ks:List (List (List Q4))):dR (KGO B ks):=fun _ _ _ hb ⟨u,h,k⟩=>⟨u,h,db _ _ _ _ _ hb k⟩
def gW (W:World) (ks:List (List (List Q4))) (gs:List (List Q4)):Ending→World→Prop:=fun e w'=>∃u gv,e= .returned (.agg #[u,gv])∧Below W.heap.size W w'∧PartsV W.heap.size w' u ks∧CellsV W.heap.size w' gv gs
theorem nF {w:World} {g:Nat} {x y:Value} (h:w.heap[g]? =some (.cells #[x,y] 75 (0,0))) (a b:Value):((w.setCell ⟨g,0,none⟩ a).setCell ⟨g,1,none⟩ b).heap[g]? =some (.cells #[a,b] 75 (0,0)):=br (br h 0 a) 1 b
theorem KO.put {B g:Nat} {ks:List (List (List Q4))} {v x y:Value} {w:World} (h:KO B ks v w) (hg:w.heap[g]? =some (.cells #[x,y] 75 (0,0))) (a b:Value):KO B ks v ((w.setCell ⟨g,0,none⟩ a).setCell ⟨g,1,none⟩ b):=
 (h.set hg (by decide) (by decide) (by decide)).set (br hg 0 a) (by decide) (by decide) (by decide)
theorem CO.put {B g:Nat} {ks:List (List Q4)} {v x y:Value} {w:World} (h:CO B ks v w) (hg:w.heap[g]? =some (.cells #[x,y] 75 (0,0))) (a b:Value):CO B ks v ((w.setCell ⟨g,0,none⟩ a).setCell ⟨g,1,none⟩ b):=
 (h.set hg (by decide) (by decide)).set (br hg 0 a) (by decide) (by decide)
theorem dC {w:World} {g:Nat} {x y:Value} {T:TypeId} (h:w.heap[g]? =some (.cells #[x,y] T (0,0))):w.cell? ⟨g,0,none⟩=some x∧w.cell? ⟨g,1,none⟩=some y∧(∀i,w.frozen? ⟨g,i,none⟩=false)∧g<w.heap.size:=
 ⟨(ag h 0).trans rfl,(ag h 1).trans rfl,fun i=>aC h i,ah h⟩
end
end Go.Proofs.YtokhkhnofkcalaaGreatDoor
