/- texts: L9 L10 B1 Pz I0 Grow G2 Gp G6 GK. -/
import Derived.Test.YtffbilcjhlncfaaGreatDoorDQS7
import Derived.Test.YtffbilcjhlncfaaGreatDoorDQS8
namespace Go.Proofs.YtffbilcjhlncfaaGreatDoor
set_option maxHeartbeats 8000000
set_option linter.all false
section
open Go.RowKit Go.Shelf
attribute [local go_sem] Ext.cell Ext.frozen
def sd (p c:Q4):Int:=uA p.1 p.2.1 p.2.2.1 p.2.2.2 c.1 c.2.1 c.2.2.1 c.2.2.2
theorem qfT {P:Program} {e:TypeId} {z:Value} {s b:Nat} (h:(P.info? e).map (fun i=>(i.zero,i.size,i.bytes))=some (some z,s,b)):∃i,Go.RowKit.Hid (P.info? e=some i∧i.zero=some z∧i.size=s∧i.bytes=b):=by
 obtain⟨i,a,b,c,d⟩:=info_parts h
 exact⟨i,YJ ⟨a,b,c,d⟩⟩
theorem qI (p c:Q4) (w:World) (hp:bI p) (hc:fD c):Calls Tryz.prog 153 #[v4 p,v4 c] w (Ret w (.int .i64 (sd p c))):=
 uB _ _ _ _ _ _ _ _ w hp.1 hp.2.1 hp.2.2.1 hp.2.2.2 hc.1 hc.2.1 hc.2.2.1 (by have:=hc.2.2.2;omega)
theorem PM (p c:Q4) (b:Nat) (w:World) (hp:bI p) (hc:fD c) (h0:w.cell? ⟨b,0,none⟩=some (.int .i64 c.1)) (h1:w.cell? ⟨b,1,none⟩=some (.int .i64 c.2.1)) (h2:w.cell? ⟨b,2,none⟩=some (.int .i64 c.2.2.1)) (h3:w.cell? ⟨b,3,none⟩=some (.int .i64 c.2.2.2)):
  Calls Tryz.prog 231 #[v4 p, .pointer (some ⟨b,0,none⟩)] w (Ret w (.bool (decide (0<sd p c)))):=by
 have hs:=fun W=>YJ (qI p c W hp hc)
 have hlt:=qaC w _ h0
 go_enter Tryz.func231,Tryz.ntmps231
 go_wp2_with fail
 refine((hs _).out).mono ?_
 rintro e w1 ⟨rfl,hb1⟩
 go_wp2
 go_ret
 exact⟨rfl,fB bel hb1⟩
theorem Gx:∀args w,(callFunc 231 args).run Tryz.prog w= .ok (.enter 231 args) w:=enters_of Tryz.func231 (by kernel_rfl) rfl
theorem oU (p c:Q4) (b:Nat) (w:World) (hp:bI p) (hc:fD c) (h0:w.cell? ⟨b,0,none⟩=some (.int .i64 c.1)) (h1:w.cell? ⟨b,1,none⟩=some (.int .i64 c.2.1)) (h2:w.cell? ⟨b,2,none⟩=some (.int .i64 c.2.2.1)) (h3:w.cell? ⟨b,3,none⟩=some (.int .i64 c.2.2.2)):
  gH Tryz.prog 231 #[.pointer (some ⟨b,0,none⟩)] w (v4 p) (decide (0<sd p c)):=
 fun _ hb=>PM p c b _ hp hc (ab hb h0) (ab hb h1) (ab hb h2) (ab hb h3)
theorem au {w w1:World} {base:Nat} {e:TypeId} {size n:Nat} {v:Value} {xs:List Value} (h:w.ownsRow base e size v n xs) (hb:Below w.heap.size w w1):w1.ownsRow base e size v n xs:=by
 refine⟨h.1, ?_⟩
 rcases h.2 with h|⟨g,cap,cur,hv,hg,hh,r⟩
 ·exact .inl h
 ·exact .inr ⟨g,cap,cur,hv,hg,(hb.block g (alsl.1 hh).1).trans hh,r⟩
theorem kN:(Tryz.prog.info? 186).map (fun i=>(i.zero,i.size,i.bytes))=some (some (v4 (0,0,0,0)),4,32):=by kernel_rfl
theorem kO:Tryz.prog.underlying 98=some (.slice 186):=by kernel_rfl
theorem fF {w:World} {base:Nat} {e:TypeId} {size n:Nat} {v:Value} {xs:List Value} (h:w.ownsRow base e size v n xs) (hn:0<n):∃g cap,v= .slice (some ⟨g,0,none⟩) n cap∧base≤g∧g<w.heap.size:=by
 rcases h.2 with⟨rfl,h0⟩|⟨g,cap,cur,rfl,hb,hh,_⟩
 ·omega
 ·exact⟨g,cap,rfl,hb,(alsl.1 hh).1⟩
theorem jY (b j:Nat):(⟨b,0,none⟩:Addr).add j=⟨b,j,none⟩:=by
 unfold Addr.add
 by_cases h:j=0<;>simp[h]
theorem aF {w:World} {base:Nat} {e:TypeId} {size n:Nat} {v:Value} {xs:List Value} (h:w.ownsRow base e size v n xs) (p:Addr) (u:Value) (hp:some p.block≠v.ownBlock):(w.setCell p u).ownsRow base e size v n xs:=by
 refine⟨h.1, ?_⟩
 rcases h.2 with h|⟨g,cap,cur,rfl,hb,hh,r⟩
 ·exact .inl h
 ·exact .inr ⟨g,cap,cur,rfl,hb,(qaH w p u g (by rintro rfl;exact hp rfl)).trans hh,r⟩
theorem aG {w:World} {g:Nat} {t:TypeId} {cs:Array Value} {base:Nat} {e:TypeId} {size n:Nat} {v:Value} {xs:List Value} (h:w.ownsRow base e size v n xs) (hg:w.heap[g]? =some (.cells cs t (0,0))) (hne:e≠t):v.ownBlock≠some g:=by
 rcases h.2 with⟨rfl,_⟩|⟨g',cap,cur,rfl,_,hh,_⟩
 ·simp[Value.ownBlock]
 ·intro he
  have:g'=g:=by simpa [Value.ownBlock]using he
  subst this
  rw[hg]at hh
  injection hh with hh
  injection hh with _ ht
  exact hne ht.symm
def bG (ps:List Q4) (c:Q4):Bool:= !(ps.any fun p=>decide (0<sd p c))
structure Kept2 (w w':World) (bb:Nat) (row:Option Nat):Prop where
 os:w'.os=w.os
 tape:w'.tape=w.tape
 output:w'.output=w.output
 size:w.heap.size≤w'.heap.size
 block:∀k,k<w.heap.size→k≠bb→some k≠row→w'.heap[k]? =w.heap[k]?
theorem Kept2.of_below {w w':World} {bb:Nat} {row:Option Nat} (h:Below w.heap.size w w'):Kept2 w w' bb row:=⟨h.os,h.tape,h.output,h.size,fun k hk _ _=>h.block k hk⟩
theorem Kept2.set {w w':World} {bb:Nat} {row:Option Nat} (h:Kept2 w w' bb row) (i:Nat) (u:Value):Kept2 w (w'.setCell ⟨bb,i,none⟩ u) bb row:=
 ⟨h.os,h.tape,h.output,by simpa [World.setCell]using h.size,fun k hk h1 h2=>(qaH _ _ _ _ h1).trans (h.block k hk h1 h2)⟩
theorem Kept2.below {w w':World} {bb:Nat} {row:Option Nat} {B:Nat} (h:Kept2 w w' bb row) (hB:B≤w.heap.size) (h1:B≤bb) (h2:∀k,row=some k→B≤k):Below B w w':=
 ⟨h.os,h.tape,h.output,h.size,fun k hk=>h.block k (by omega) (by omega) (fun e=>by have:=h2 k e.symm;omega)⟩
theorem xl (ps:List Q4) (c:Q4) (pv cv:Value) (bb n base:Nat) (cells:List Value) (w:World) (hps:∀p∈ps,bI p) (hc:fD c) (hl:ps.length≤1000000) (hn:n≤1000000)
  (hB:w.heap[bb]? =some (.cells #[pv,cv] 184 (0,0))) (hpv:Q4s w pv ps) (hown:w.ownsRow base 186 4 cv n cells) (hbs:base≤w.heap.size) (ha:bG ps c=true):
  Calls Tryz.prog 199 #[.pointer (some ⟨bb,0,none⟩),v4 c] w fun e w'=>e= .returned (.tuple #[])∧Kept2 w w' bb cv.ownBlock∧
   ∃cv',w'.heap[bb]? =some (.cells #[pv,cv'] 184 (0,0))∧w'.ownsRow base 186 4 cv' (n+1) (cells++[.int .i64 c.1, .int .i64 c.2.1, .int .i64 c.2.2.1, .int .i64 c.2.2.2]):=by
 have hany:(ps.any fun p=>decide (0<sd p c))=false:=by simpa [bG]using ha
 have hlt:bb<w.heap.size:=(alsl.1 hB).1
 have k0:w.cell? ⟨bb,0,none⟩=some pv:=cell_of_row w bb 0 _ _ _ hB
 have k1:w.cell? ⟨bb,1,none⟩=some cv:=cell_of_row w bb 1 _ _ _ hB
 obtain⟨W,HW⟩:∃W,Hid (W=w.alloc (.cells #[.int .i64 c.1, .int .i64 c.2.1, .int .i64 c.2.2.1, .int .i64 c.2.2.2] 186)):=⟨_,YJ rfl⟩
 have hbW:Below w.heap.size w W:=by rw[HW.out];exact bel
 have m0:W.cell? ⟨w.heap.size,0,none⟩=some (.int .i64 c.1):=by rw[HW.out];exact aq rfl 0
 have m1:W.cell? ⟨w.heap.size,1,none⟩=some (.int .i64 c.2.1):=by rw[HW.out];exact aq rfl 1
 have m2:W.cell? ⟨w.heap.size,2,none⟩=some (.int .i64 c.2.2.1):=by rw[HW.out];exact aq rfl 2
 have m3:W.cell? ⟨w.heap.size,3,none⟩=some (.int .i64 c.2.2.2):=by rw[HW.out];exact aq rfl 3
 have hcon:=fE pv ps (fun p=>decide (0<sd p c)) _ _ W (hpv.below hbW) (by omega) Gx (fun p hp=>oU p c w.heap.size W (hps p hp) hc m0 m1 m2 m3)
 rw[hany,HW.out]at hcon
 have Hcon:=YJ hcon
 clear hcon
 go_enter Tryz.func199,Tryz.ntmps199
 go_wp2_with fail
 refine(Hcon.out).mono ?_
 rintro e w1 ⟨rfl,hb1⟩
 go_wp2
 have hw1:Below w.heap.size w w1:=fB bel hb1
 have q1:w1.cell? ⟨bb,1,none⟩=some cv:=ab hw1 k1
 have m0':w1.cell? ⟨w.heap.size,0,none⟩=some (.int .i64 c.1):=ab hb1 (aq rfl 0)
 have m1':w1.cell? ⟨w.heap.size,1,none⟩=some (.int .i64 c.2.1):=ab hb1 (aq rfl 1)
 have m2':w1.cell? ⟨w.heap.size,2,none⟩=some (.int .i64 c.2.2.1):=ab hb1 (aq rfl 2)
 have m3':w1.cell? ⟨w.heap.size,3,none⟩=some (.int .i64 c.2.2.2):=ab hb1 (aq rfl 3)
 have z0:w.heap.size<w1.heap.size:=by have:=hb1.size;simp at this;omega
 have z1:bb<w1.heap.size:=by omega
 have hB':w1.heap[bb]? =some (.cells #[pv,cv] 184 (0,0)):=(hw1.block bb hlt).trans hB
 have hown1:w1.ownsRow base 186 4 cv n cells:=au hown hw1
 clear hb1 m0 m1 m2 m3 hbW HW Hcon k0 k1 hB hpv hown
 refine mO [0,1,2,3] [4,5] 6 7 [8,9,10] (by kernel_rfl) (by kernel_rfl) (fun w'=>∃u:Ext _,w'=u.val) ⟨Ext.drew,rfl⟩ ?_
 simp only[oas]
 repeat(refine zd (fun K' hK'=> ?_);go_simp;refine hK' _ ?_;clear hK' K')
 refine lG ?_
 repeat(refine uH (fun K' hK'=> ?_);go_simp;refine hK' _ ?_;clear hK' K')
 refine xk ?_
 refine wpList_step (fun K hK=> ?_)
 go_simp
 refine hK _ _ ?_
 clear hK K
 refine⟨⟨⟨_,bel⟩,rfl⟩, ?_⟩
 obtain⟨i0,hi,hz0,hz1,hz2⟩:=info_parts kN
 refine wpList_append_own _ rfl _ _ 98 rfl base 186 i0 (v4 (0,0,0,0)) 4 32 kO hi hz0 hz1 hz2 rfl (by decide) cv n cells rfl ((hown1.alloc _).drew) ⟨w1.heap.size,0,none⟩ 1 1 [.int .i64 c.1, .int .i64 c.2.1, .int .i64 c.2.2.1, .int .i64 c.2.2.2] rfl rfl ?c1 ?c2 ?c3 ?c4 ?c5 ?_
 case c1=>
  intro j u hu
  have:(w1.alloc (.cells #[.int .i64 c.1, .int .i64 c.2.1, .int .i64 c.2.2.1, .int .i64 c.2.2.2] 186)).cell? ⟨w1.heap.size,j,none⟩=some u:=by rw[aq rfl j];simpa using hu
  rw[jY];exact this
 case c2=>intro u hu;simp at hu;rcases hu with rfl|rfl|rfl|rfl<;>rfl
 case c3=>unfold maxLen;omega
 case c4=>omega
 case c5=>simp;omega
 intro v' w2 hown2 hg2 _
 have hne:some bb≠cv.ownBlock:=fun e=>aG hown1 hB' (by decide) e.symm
 have hBk:w2.heap[bb]? =some (.cells #[pv,cv] 184 (0,0)):=(hg2.block bb (by simp;omega) hne).trans ((Below.heap_alloc w1 _ bb z1).trans hB')
 have k1:w2.cell? ⟨bb,1,none⟩=some cv:=cell_of_row w2 bb 1 _ _ _ hBk
 have kf:w2.frozen? ⟨bb,1,none⟩=false:=by simp[World.frozen?,hBk]
 have hbw2:Kept2 w w2 bb cv.ownBlock:=by
  refine⟨hg2.os.trans hw1.os,hg2.tape.trans hw1.tape,hg2.output.trans hw1.output, ?_,fun k hk h1 h2=> ?_⟩
  ·have:=hg2.size;simp at this;omega
  ·exact(hg2.block k (by simp;omega) h2).trans ((Below.heap_alloc w1 _ k (by omega)).trans (hw1.block k hk))
 clear hg2 hown1 q1 m0' m1' m2' m3' hB' hi hz0 hz1 hz2
 obtain⟨g,cap,rfl,hg,hglt⟩:=fF hown2 (by omega)
 have hbg:g≠bb:=fun e=>aG hown2 hBk (by decide) (by rw[e];rfl)
 have Hown2:=YJ hown2
 clear hown2
 go_frame
 iterate 3 (refine wpList_step (fun K hK=> ?_);go_simp;refine hK _ _ ?_;clear hK K)
 refine NoPanic.normal ?_
 go_wp2
 go_end0
 refine⟨rfl,hbw2.set _ _,_, ?_,aF Hown2.out _ _ (fun e=>hbg (by simpa [Value.ownBlock]using e.symm))⟩
 simp[World.setCell,Array.getElem?_modify,hBk]
theorem yF (ps:List Q4) (c:Q4) (pv cv:Value) (bb:Nat) (w:World) (hps:∀p∈ps,bI p) (hc:fD c) (hl:ps.length≤1000000)
  (hB:w.heap[bb]? =some (.cells #[pv,cv] 184 (0,0))) (hpv:Q4s w pv ps) (ha:bG ps c=false):
  Calls Tryz.prog 199 #[.pointer (some ⟨bb,0,none⟩),v4 c] w fun e w'=>e= .returned (.tuple #[])∧Below w.heap.size w w':=by
 have hany:(ps.any fun p=>decide (0<sd p c))=true:=by simpa [bG]using ha
 have hlt:bb<w.heap.size:=(alsl.1 hB).1
 have k0:w.cell? ⟨bb,0,none⟩=some pv:=cell_of_row w bb 0 _ _ _ hB
 obtain⟨W,HW⟩:∃W,Hid (W=w.alloc (.cells #[.int .i64 c.1, .int .i64 c.2.1, .int .i64 c.2.2.1, .int .i64 c.2.2.2] 186)):=⟨_,YJ rfl⟩
 have hbW:Below w.heap.size w W:=by rw[HW.out];exact bel
 have m0:W.cell? ⟨w.heap.size,0,none⟩=some (.int .i64 c.1):=by rw[HW.out];exact aq rfl 0
 have m1:W.cell? ⟨w.heap.size,1,none⟩=some (.int .i64 c.2.1):=by rw[HW.out];exact aq rfl 1
 have m2:W.cell? ⟨w.heap.size,2,none⟩=some (.int .i64 c.2.2.1):=by rw[HW.out];exact aq rfl 2
 have m3:W.cell? ⟨w.heap.size,3,none⟩=some (.int .i64 c.2.2.2):=by rw[HW.out];exact aq rfl 3
 have hcon:=fE pv ps (fun p=>decide (0<sd p c)) _ _ W (hpv.below hbW) (by omega) Gx (fun p hp=>oU p c w.heap.size W (hps p hp) hc m0 m1 m2 m3)
 rw[hany,HW.out]at hcon
 have Hcon:=YJ hcon
 clear hcon
 go_enter Tryz.func199,Tryz.ntmps199
 go_wp2_with fail
 refine(Hcon.out).mono ?_
 rintro e w1 ⟨rfl,hb1⟩
 go_wp2
 go_end0
 exact⟨rfl,fB bel hb1⟩
end
section
open Go.RowKit Go.Shelf
attribute [local go_sem] Ext.cell Ext.frozen
set_option maxRecDepth 100000
abbrev Q3:=Int×Int×Int
def aN (u v:Q3):Q3:=(u.2.1*v.2.2-u.2.2*v.2.1,u.2.2*v.1-u.1*v.2.2,u.1*v.2.1-u.2.1*v.1)
def bj (u v:Q3):Int:=u.1*v.1+u.2.1*v.2.1+u.2.2*v.2.2
def nrm (p:Q4):Q3:=(p.1,p.2.1,p.2.2.1)
theorem bq {w:World} {g:Nat} {cs:Array Value} {t:TypeId} (h:w.heap[g]? =some (.cells cs t (0,0))) (i:Nat):w.cell? ⟨g,i,none⟩=cs[i]? :=cell_of_row w g i cs t (0,0) h
theorem aC {w:World} {g:Nat} {cs:Array Value} {t:TypeId} (h:w.heap[g]? =some (.cells cs t (0,0))) (i:Nat):w.frozen? ⟨g,i,none⟩=false:=by simp[World.frozen?,h]
theorem ah {w:World} {g:Nat} {o:Obj} (h:w.heap[g]? =some o):g<w.heap.size:=(alsl.1 h).1
theorem NO {w:World} {g:Nat} {x0 x1 x2:Value} {t:TypeId} (h:w.heap[g]? =some (.cells #[x0,x1,x2] t (0,0))):w.cell? ⟨g,0,none⟩=some x0∧w.cell? ⟨g,1,none⟩=some x1∧w.cell? ⟨g,2,none⟩=some x2∧(∀i,w.frozen? ⟨g,i,none⟩=false)∧g<w.heap.size:=⟨bq h 0,bq h 1,bq h 2,fun i=>aC h i,ah h⟩
theorem am {w:World} {g:Nat} {x0 x1 x2 x3:Value} {t:TypeId} (h:w.heap[g]? =some (.cells #[x0,x1,x2,x3] t (0,0))):w.cell? ⟨g,0,none⟩=some x0∧w.cell? ⟨g,1,none⟩=some x1∧w.cell? ⟨g,2,none⟩=some x2∧w.cell? ⟨g,3,none⟩=some x3∧(∀i,w.frozen? ⟨g,i,none⟩=false)∧g<w.heap.size:=
 ⟨(bq h 0).trans rfl,(bq h 1).trans rfl,(bq h 2).trans rfl,(bq h 3).trans rfl,aC h,ah h⟩
theorem bM {w:World} {g:Nat} {x0 x1 x2 x3 x4:Value} {t:TypeId} (h:w.heap[g]? =some (.cells #[x0,x1,x2,x3,x4] t (0,0))):w.cell? ⟨g,0,none⟩=some x0∧w.cell? ⟨g,1,none⟩=some x1∧w.cell? ⟨g,2,none⟩=some x2∧w.cell? ⟨g,3,none⟩=some x3∧w.cell? ⟨g,4,none⟩=some x4∧(∀i,w.frozen? ⟨g,i,none⟩=false)∧g<w.heap.size:=⟨bq h 0,bq h 1,bq h 2,bq h 3,bq h 4,fun i=>aC h i,ah h⟩
theorem yG (a b c d e f g h i:Value) (w:World):(Instr.index 318 (.agg #[a,b,c,d,e,f,g,h,i]) (.int .i64 0)).run Tryz.prog w= .ok (.agg #[a,b,c]) w:=by kernel_rfl
theorem yH (a b c d e f g h i:Value) (w:World):(Instr.index 318 (.agg #[a,b,c,d,e,f,g,h,i]) (.int .i64 1)).run Tryz.prog w= .ok (.agg #[d,e,f]) w:=by kernel_rfl
theorem yI (a b c d e f g h i:Value) (w:World):(Instr.index 318 (.agg #[a,b,c,d,e,f,g,h,i]) (.int .i64 2)).run Tryz.prog w= .ok (.agg #[g,h,i]) w:=by kernel_rfl
theorem aL {a b x y:Int} (ha: -8≤a∧a≤8) (hb: -8≤b∧b≤8) (hx: -8≤x∧x≤8) (hy: -8≤y∧y≤8): -128≤a*y-b*x∧a*y-b*x≤128:=by
 have h1:=aJ ha.1 ha.2 hy.1 hy.2
 have h2:=aJ hb.1 hb.2 hx.1 hx.2
 omega
def fP (d0 d1 d2:Int) (a b c:Q3):Q3:=(d0*a.1+d1*b.1+d2*c.1,d0*a.2.1+d1*b.2.1+d2*c.2.1,d0*a.2.2+d1*b.2.2+d2*c.2.2)
def TB (p q r:Q4) (den:Int):Q4:=
 let v:=fP p.2.2.2 q.2.2.2 r.2.2.2 (aN (nrm q) (nrm r)) (aN (nrm r) (nrm p)) (aN (nrm p) (nrm q))
 eu v.1 v.2.1 v.2.2 den
theorem ai {W:World} {o:Obj} {g:Nat} (hg:g=W.heap.size):(W.alloc o).heap[g]? =some o:=by subst hg;exact heap_alloc_new W o
theorem aB {W:World} {o:Obj} {g:Nat} (hg:g<W.heap.size):(W.alloc o).heap[g]? =W.heap[g]? :=Below.heap_alloc W o g hg
structure S5 (N:Nat) (p q r v:Array Value) (w:World):Prop where
 p:w.heap[N]? =some (.cells p 190 (0,0))
 q:w.heap[N+1]? =some (.cells q 190 (0,0))
 r:w.heap[N+1+1]? =some (.cells r 190 (0,0))
 o:w.heap[N+1+1+1]? =some (.cells #[.int .i64 0, .int .i64 0, .int .i64 0, .int .i64 0] 186 (0,0))
 v:w.heap[N+1+1+1+1]? =some (.cells v 191 (0,0))
theorem S5.keep {N:Nat} {p q r v:Array Value} {w w':World} (h:S5 N p q r v w) (hb:Below w.heap.size w w'):S5 N p q r v w':=
 ⟨(hb.block _ (ah h.p)).trans h.p,(hb.block _ (ah h.q)).trans h.q,(hb.block _ (ah h.r)).trans h.r,(hb.block _ (ah h.o)).trans h.o,(hb.block _ (ah h.v)).trans h.v⟩
theorem Tu {w:World} {g:Nat} {cs:Array Value} {t:TypeId} (h:w.heap[g]? =some (.cells cs t (0,0))) (i:Nat) (u:Value):(w.setCell ⟨g,i,none⟩ u).heap[g]? =some (.cells (cs.setIfInBounds i u) t (0,0)):=by
 simp[World.setCell,Array.getElem?_modify,h]
theorem xo (w:World) (p q r:Array Value):S5 w.heap.size p q r #[.int .i64 0, .int .i64 0, .int .i64 0] (((((w.alloc (.cells p 190)).alloc (.cells q 190)).alloc (.cells r 190)).alloc (.cells #[.int .i64 0, .int .i64 0, .int .i64 0, .int .i64 0] 186)).alloc (.cells #[.int .i64 0, .int .i64 0, .int .i64 0] 191)):=by
 refine⟨?_, ?_, ?_, ?_, ?_⟩
 ·exact(aB (by simp<;>omega)).trans ((aB (by simp<;>omega)).trans ((aB (by simp<;>omega)).trans ((aB (by simp)).trans (ai rfl))))
 ·exact(aB (by simp<;>omega)).trans ((aB (by simp<;>omega)).trans ((aB (by simp)).trans (ai (by simp))))
 ·exact(aB (by simp<;>omega)).trans ((aB (by simp)).trans (ai (by simp)))
 ·exact(aB (by simp)).trans (ai (by simp))
 ·exact ai (by simp)
theorem S5.set {N:Nat} {p q r v:Array Value} {w:World} (h:S5 N p q r v w) (i:Nat) (u:Value):S5 N p q r (v.setIfInBounds i u) (w.setCell ⟨N+1+1+1+1,i,none⟩ u):=
 ⟨(qaH _ _ _ _ (by show N≠N+1+1+1+1;omega)).trans h.p,(qaH _ _ _ _ (by show N+1≠N+1+1+1+1;omega)).trans h.q,(qaH _ _ _ _ (by show N+1+1≠N+1+1+1+1;omega)).trans h.r,(qaH _ _ _ _ (by show N+1+1+1≠N+1+1+1+1;omega)).trans h.o,Tu h.v i u⟩
theorem oV (p q r:Q4) (den:Int) (w:World) (hp:bI p) (hq:bI q) (hr:bI r) (hd: -1000000≤den∧den≤1000000) (h0:den≠0):
  Calls Tryz.prog 200 #[v4 p,v4 q,v4 r, .int .i64 den] w (Ret w (v4 (TB p q r den))):=by
 obtain⟨p0,p1,p2,pd⟩:=p
 obtain⟨q0,q1,q2,qd⟩:=q
 obtain⟨r0,r1,r2,rd⟩:=r
 simp only[bI]at hp hq hr
 have Hm:Hid (TB (p0,p1,p2,pd) (q0,q1,q2,qd) (r0,r1,r2,rd) den=eu (pd*(q1*r2-q2*r1)+qd*(r1*p2-r2*p1)+rd*(p1*q2-p2*q1)) (pd*(q2*r0-q0*r2)+qd*(r2*p0-r0*p2)+rd*(p2*q0-p0*q2)) (pd*(q0*r1-q1*r0)+qd*(r0*p1-r1*p0)+rd*(p0*q1-p1*q0)) den):=YJ rfl
 have b0:=aL hq.2.1 hq.2.2.1 hr.2.1 hr.2.2.1
 have b1:=aL hq.2.2.1 hq.1 hr.2.2.1 hr.1
 have b2:=aL hq.1 hq.2.1 hr.1 hr.2.1
 have b3:=aL hr.2.1 hr.2.2.1 hp.2.1 hp.2.2.1
 have b4:=aL hr.2.2.1 hr.1 hp.2.2.1 hp.1
 have b5:=aL hr.1 hr.2.1 hp.1 hp.2.1
 have b6:=aL hp.2.1 hp.2.2.1 hq.2.1 hq.2.2.1
 have b7:=aL hp.2.2.1 hp.1 hq.2.2.1 hq.1
 have b8:=aL hp.1 hp.2.1 hq.1 hq.2.1
 generalize TB (p0,p1,p2,pd) (q0,q1,q2,qd) (r0,r1,r2,rd) den=res at*
 go_enter Tryz.func200,Tryz.ntmps200
 go_wp2
 refine wqb ?_
 repeat(first|go_big_quiet_step ((first|(go_at_call 104;exact aE (Tx _ _ _ _ _))|(go_at_call 198;exact aE (iw _ _ _ _ _ _ _ (by omega) (by omega) (by omega) (by omega) (by omega) (by omega)))))|quiet_step ((first|(go_at_call 104;exact aE (Tx _ _ _ _ _))|(go_at_call 198;exact aE (iw _ _ _ _ _ _ _ (by omega) (by omega) (by omega) (by omega) (by omega) (by omega))))))
 refine wqn fun u=> ?_
 go_wp2
 generalize q1*r2-q2*r1=n0 at*
 generalize q2*r0-q0*r2=n1 at*
 generalize q0*r1-q1*r0=n2 at*
 generalize r1*p2-r2*p1=n3 at*
 generalize r2*p0-r0*p2=n4 at*
 generalize r0*p1-r1*p0=n5 at*
 generalize p1*q2-p2*q1=n6 at*
 generalize p2*q0-p0*q2=n7 at*
 generalize p0*q1-p1*q0=n8 at*
 have D0: -1280000000≤pd*n0∧pd*n0≤1280000000:=aJ hp.2.2.2.1 hp.2.2.2.2 b0.1 b0.2
 have D1: -1280000000≤pd*n1∧pd*n1≤1280000000:=aJ hp.2.2.2.1 hp.2.2.2.2 b1.1 b1.2
 have D2: -1280000000≤pd*n2∧pd*n2≤1280000000:=aJ hp.2.2.2.1 hp.2.2.2.2 b2.1 b2.2
 have D3: -1280000000≤qd*n3∧qd*n3≤1280000000:=aJ hq.2.2.2.1 hq.2.2.2.2 b3.1 b3.2
 have D4: -1280000000≤qd*n4∧qd*n4≤1280000000:=aJ hq.2.2.2.1 hq.2.2.2.2 b4.1 b4.2
 have D5: -1280000000≤qd*n5∧qd*n5≤1280000000:=aJ hq.2.2.2.1 hq.2.2.2.2 b5.1 b5.2
 have D6: -1280000000≤rd*n6∧rd*n6≤1280000000:=aJ hr.2.2.2.1 hr.2.2.2.2 b6.1 b6.2
 have D7: -1280000000≤rd*n7∧rd*n7≤1280000000:=aJ hr.2.2.2.1 hr.2.2.2.2 b7.1 b7.2
 have D8: -1280000000≤rd*n8∧rd*n8≤1280000000:=aJ hr.2.2.2.1 hr.2.2.2.2 b8.1 b8.2
 obtain⟨N,HN⟩:∃N,Hid (N=w.heap.size):=⟨_,YJ rfl⟩
 have H5:Hid (S5 N #[.int .i64 p0, .int .i64 p1, .int .i64 p2, .int .i64 pd] #[.int .i64 q0, .int .i64 q1, .int .i64 q2, .int .i64 qd] #[.int .i64 r0, .int .i64 r1, .int .i64 r2, .int .i64 rd] #[.int .i64 0, .int .i64 0, .int .i64 0] u.val):=by
  refine YJ (S5.keep ?_ u.below)
  rw[HN.out]
  exact xo _ _ _ _
 have hbu:Below N w u.val:=by rw[HN.out];exact fB bel u.below
 rw[←HN.out]
 have i0:=yG (.int .i64 n0) (.int .i64 n1) (.int .i64 n2) (.int .i64 n3) (.int .i64 n4) (.int .i64 n5) (.int .i64 n6) (.int .i64 n7) (.int .i64 n8)
 have i1:=yH (.int .i64 n0) (.int .i64 n1) (.int .i64 n2) (.int .i64 n3) (.int .i64 n4) (.int .i64 n5) (.int .i64 n6) (.int .i64 n7) (.int .i64 n8)
 have i2:=yI (.int .i64 n0) (.int .i64 n1) (.int .i64 n2) (.int .i64 n3) (.int .i64 n4) (.int .i64 n5) (.int .i64 n6) (.int .i64 n7) (.int .i64 n8)
 have j0:=qD (.int .i64 pd) (.int .i64 qd) (.int .i64 rd)
 have j1:=qE (.int .i64 pd) (.int .i64 qd) (.int .i64 rd)
 have j2:=qF (.int .i64 pd) (.int .i64 qd) (.int .i64 rd)
 have nN:N≤w.heap.size:=Nat.le_of_eq HN.out
 clear b0 b1 b2 b3 b4 b5 b6 b7 b8 hp hq hr
 go_loopw [30] (fun i wr=>∃k:Int,0≤k∧k≤3∧i= .int .i64 k∧Below N w wr∧Hid (S5 N #[.int .i64 p0, .int .i64 p1, .int .i64 p2, .int .i64 pd] #[.int .i64 q0, .int .i64 q1, .int .i64 q2, .int .i64 qd] #[.int .i64 r0, .int .i64 r1, .int .i64 r2, .int .i64 rd] #[.int .i64 (if k≤0 then 0 else if k≤1 then pd*n0 else if k≤2 then pd*n0+qd*n3 else pd*n0+qd*n3+rd*n6), .int .i64 (if k≤0 then 0 else if k≤1 then pd*n1 else if k≤2 then pd*n1+qd*n4 else pd*n1+qd*n4+rd*n7), .int .i64 (if k≤0 then 0 else if k≤1 then pd*n2 else if k≤2 then pd*n2+qd*n5 else pd*n2+qd*n5+rd*n8)] wr)) (fun i _=>3-(intOf i).toNat)
 case atStart=>exact⟨0,by omega,by omega,rfl,hbu,H5⟩
 case round=>
  clear H5 hbu
  obtain⟨k,hk0,hk,rfl,hb,H5⟩:=hrel
  obtain⟨wo,rfl⟩:∃wo:World,wo=wr:=⟨_,rfl⟩
  have z4:=ah H5.out.v
  rcases(by omega:k=0∨k=1∨k=2∨k=3)with rfl|rfl|rfl|rfl
  ·have a0:wo.cell? ⟨N,3,none⟩=some (.int .i64 pd):=(bq H5.out.p 3).trans rfl
   have a1:wo.cell? ⟨N+1,3,none⟩=some (.int .i64 qd):=(bq H5.out.q 3).trans rfl
   have a2:wo.cell? ⟨N+1+1,3,none⟩=some (.int .i64 rd):=(bq H5.out.r 3).trans rfl
   have zA:N<wo.heap.size:=by omega
   have zB:N+1<wo.heap.size:=by omega
   have zC:N+1+1<wo.heap.size:=by omega
   go_wp2
   clear a0 a1 a2 zA zB zC
   go_loopw [43] (fun i wr=>∃k:Int,0≤k∧k≤3∧i= .int .i64 k∧Below N w wr∧Hid (S5 N #[.int .i64 p0, .int .i64 p1, .int .i64 p2, .int .i64 pd] #[.int .i64 q0, .int .i64 q1, .int .i64 q2, .int .i64 qd] #[.int .i64 r0, .int .i64 r1, .int .i64 r2, .int .i64 rd] #[.int .i64 (if k≤0 then 0 else pd*n0), .int .i64 (if k≤1 then 0 else pd*n1), .int .i64 (if k≤2 then 0 else pd*n2)] wr)∧Hid (wr.heap[wo.heap.size]? =some (.cells #[.int .i64 n0, .int .i64 n1, .int .i64 n2] 191 (0,0)))∧wo.heap.size+1≤wr.heap.size) (fun i _=>3-(intOf i).toNat)
   case atStart=>exact⟨0,by omega,by omega,rfl,hb.alloc (by omega) _,YJ (H5.out.keep bel),YJ (heap_alloc_new wo _),by simp⟩
   case round=>
    clear hb H5
    obtain⟨k,hk0,hk,rfl,hb,H5,Hx,hsz⟩:=hrel
    have z4:=ah H5.out.v
    have z5:wo.heap.size<wr.heap.size:=by omega
    rcases(by omega:k=0∨k=1∨k=2∨k=3)with rfl|rfl|rfl|rfl
    ·have v0:wr.cell? ⟨N+1+1+1+1,0,none⟩=some (.int .i64 (0)):=(bq H5.out.v 0).trans rfl
     have y0:wr.cell? ⟨wo.heap.size,0,none⟩=some (.int .i64 n0):=(bq Hx.out 0).trans rfl
     have fz:=aC H5.out.v 0
     go_wp2
     refine aQ 9 (by kernel_rfl) (by kernel_rfl) ?_
     simp only[qdv,qdu,qdw,qdy]
     repeat(first|go_big_quiet_step (fail)|quiet_step (fail))
     refine wpQuiet_nil ?_
     rintro _ ⟨u,rfl⟩
     go_wp2
     go_roundw
     case rel=>exact⟨1,by omega,by omega,rfl,bel,YJ (((H5.out.keep u.below).set 0 _)),YJ ((qaH _ _ _ _ (by simp;omega)).trans ((u.below.block _ (by omega)).trans Hx.out)),by simp;have:=u.below.size;omega⟩
     first|decide|(simp[intOf];done)
    ·have v0:wr.cell? ⟨N+1+1+1+1,1,none⟩=some (.int .i64 (0)):=(bq H5.out.v 1).trans rfl
     have y0:wr.cell? ⟨wo.heap.size,1,none⟩=some (.int .i64 n1):=(bq Hx.out 1).trans rfl
     have fz:=aC H5.out.v 1
     go_wp2
     refine aQ 9 (by kernel_rfl) (by kernel_rfl) ?_
     simp only[qdv,qdu,qdw,qdy]
     repeat(first|go_big_quiet_step (fail)|quiet_step (fail))
     refine wpQuiet_nil ?_
     rintro _ ⟨u,rfl⟩
     go_wp2
     go_roundw
     case rel=>exact⟨2,by omega,by omega,rfl,bel,YJ (((H5.out.keep u.below).set 1 _)),YJ ((qaH _ _ _ _ (by simp;omega)).trans ((u.below.block _ (by omega)).trans Hx.out)),by simp;have:=u.below.size;omega⟩
     first|decide|(simp[intOf];done)
    ·have v0:wr.cell? ⟨N+1+1+1+1,2,none⟩=some (.int .i64 (0)):=(bq H5.out.v 2).trans rfl
     have y0:wr.cell? ⟨wo.heap.size,2,none⟩=some (.int .i64 n2):=(bq Hx.out 2).trans rfl
     have fz:=aC H5.out.v 2
     go_wp2
     refine aQ 9 (by kernel_rfl) (by kernel_rfl) ?_
     simp only[qdv,qdu,qdw,qdy]
     repeat(first|go_big_quiet_step (fail)|quiet_step (fail))
     refine wpQuiet_nil ?_
     rintro _ ⟨u,rfl⟩
     go_wp2
     go_roundw
     case rel=>exact⟨3,by omega,by omega,rfl,bel,YJ (((H5.out.keep u.below).set 2 _)),YJ ((qaH _ _ _ _ (by simp;omega)).trans ((u.below.block _ (by omega)).trans Hx.out)),by simp;have:=u.below.size;omega⟩
     first|decide|(simp[intOf];done)
    ·go_wp2
     go_roundw
     case rel=>exact⟨1,by omega,by omega,rfl,hb,YJ H5.out⟩
     first|decide|(simp[intOf];done)
  ·have a0:wo.cell? ⟨N,3,none⟩=some (.int .i64 pd):=(bq H5.out.p 3).trans rfl
   have a1:wo.cell? ⟨N+1,3,none⟩=some (.int .i64 qd):=(bq H5.out.q 3).trans rfl
   have a2:wo.cell? ⟨N+1+1,3,none⟩=some (.int .i64 rd):=(bq H5.out.r 3).trans rfl
   have zA:N<wo.heap.size:=by omega
   have zB:N+1<wo.heap.size:=by omega
   have zC:N+1+1<wo.heap.size:=by omega
   go_wp2
   clear a0 a1 a2 zA zB zC
   go_loopw [43] (fun i wr=>∃k:Int,0≤k∧k≤3∧i= .int .i64 k∧Below N w wr∧Hid (S5 N #[.int .i64 p0, .int .i64 p1, .int .i64 p2, .int .i64 pd] #[.int .i64 q0, .int .i64 q1, .int .i64 q2, .int .i64 qd] #[.int .i64 r0, .int .i64 r1, .int .i64 r2, .int .i64 rd] #[.int .i64 (if k≤0 then pd*n0 else pd*n0+qd*n3), .int .i64 (if k≤1 then pd*n1 else pd*n1+qd*n4), .int .i64 (if k≤2 then pd*n2 else pd*n2+qd*n5)] wr)∧Hid (wr.heap[wo.heap.size]? =some (.cells #[.int .i64 n3, .int .i64 n4, .int .i64 n5] 191 (0,0)))∧wo.heap.size+1≤wr.heap.size) (fun i _=>3-(intOf i).toNat)
   case atStart=>exact⟨0,by omega,by omega,rfl,hb.alloc (by omega) _,YJ (H5.out.keep bel),YJ (heap_alloc_new wo _),by simp⟩
   case round=>
    clear hb H5
    obtain⟨k,hk0,hk,rfl,hb,H5,Hx,hsz⟩:=hrel
    have z4:=ah H5.out.v
    have z5:wo.heap.size<wr.heap.size:=by omega
    rcases(by omega:k=0∨k=1∨k=2∨k=3)with rfl|rfl|rfl|rfl
    ·have v0:wr.cell? ⟨N+1+1+1+1,0,none⟩=some (.int .i64 (pd*n0)):=(bq H5.out.v 0).trans rfl
     have y0:wr.cell? ⟨wo.heap.size,0,none⟩=some (.int .i64 n3):=(bq Hx.out 0).trans rfl
     have fz:=aC H5.out.v 0
     go_wp2
     refine aQ 9 (by kernel_rfl) (by kernel_rfl) ?_
     simp only[qdv,qdu,qdw,qdy]
     repeat(first|go_big_quiet_step (fail)|quiet_step (fail))
     refine wpQuiet_nil ?_
     rintro _ ⟨u,rfl⟩
     go_wp2
     go_roundw
     case rel=>exact⟨1,by omega,by omega,rfl,bel,YJ (((H5.out.keep u.below).set 0 _)),YJ ((qaH _ _ _ _ (by simp;omega)).trans ((u.below.block _ (by omega)).trans Hx.out)),by simp;have:=u.below.size;omega⟩
     first|decide|(simp[intOf];done)
    ·have v0:wr.cell? ⟨N+1+1+1+1,1,none⟩=some (.int .i64 (pd*n1)):=(bq H5.out.v 1).trans rfl
     have y0:wr.cell? ⟨wo.heap.size,1,none⟩=some (.int .i64 n4):=(bq Hx.out 1).trans rfl
     have fz:=aC H5.out.v 1
     go_wp2
     refine aQ 9 (by kernel_rfl) (by kernel_rfl) ?_
     simp only[qdv,qdu,qdw,qdy]
     repeat(first|go_big_quiet_step (fail)|quiet_step (fail))
     refine wpQuiet_nil ?_
     rintro _ ⟨u,rfl⟩
     go_wp2
     go_roundw
     case rel=>exact⟨2,by omega,by omega,rfl,bel,YJ (((H5.out.keep u.below).set 1 _)),YJ ((qaH _ _ _ _ (by simp;omega)).trans ((u.below.block _ (by omega)).trans Hx.out)),by simp;have:=u.below.size;omega⟩
     first|decide|(simp[intOf];done)
    ·have v0:wr.cell? ⟨N+1+1+1+1,2,none⟩=some (.int .i64 (pd*n2)):=(bq H5.out.v 2).trans rfl
     have y0:wr.cell? ⟨wo.heap.size,2,none⟩=some (.int .i64 n5):=(bq Hx.out 2).trans rfl
     have fz:=aC H5.out.v 2
     go_wp2
     refine aQ 9 (by kernel_rfl) (by kernel_rfl) ?_
     simp only[qdv,qdu,qdw,qdy]
     repeat(first|go_big_quiet_step (fail)|quiet_step (fail))
     refine wpQuiet_nil ?_
     rintro _ ⟨u,rfl⟩
     go_wp2
     go_roundw
     case rel=>exact⟨3,by omega,by omega,rfl,bel,YJ (((H5.out.keep u.below).set 2 _)),YJ ((qaH _ _ _ _ (by simp;omega)).trans ((u.below.block _ (by omega)).trans Hx.out)),by simp;have:=u.below.size;omega⟩
     first|decide|(simp[intOf];done)
    ·go_wp2
     go_roundw
     case rel=>exact⟨2,by omega,by omega,rfl,hb,YJ H5.out⟩
     first|decide|(simp[intOf];done)
  ·have a0:wo.cell? ⟨N,3,none⟩=some (.int .i64 pd):=(bq H5.out.p 3).trans rfl
   have a1:wo.cell? ⟨N+1,3,none⟩=some (.int .i64 qd):=(bq H5.out.q 3).trans rfl
   have a2:wo.cell? ⟨N+1+1,3,none⟩=some (.int .i64 rd):=(bq H5.out.r 3).trans rfl
   have zA:N<wo.heap.size:=by omega
   have zB:N+1<wo.heap.size:=by omega
   have zC:N+1+1<wo.heap.size:=by omega
   go_wp2
   clear a0 a1 a2 zA zB zC
   go_loopw [43] (fun i wr=>∃k:Int,0≤k∧k≤3∧i= .int .i64 k∧Below N w wr∧Hid (S5 N #[.int .i64 p0, .int .i64 p1, .int .i64 p2, .int .i64 pd] #[.int .i64 q0, .int .i64 q1, .int .i64 q2, .int .i64 qd] #[.int .i64 r0, .int .i64 r1, .int .i64 r2, .int .i64 rd] #[.int .i64 (if k≤0 then pd*n0+qd*n3 else pd*n0+qd*n3+rd*n6), .int .i64 (if k≤1 then pd*n1+qd*n4 else pd*n1+qd*n4+rd*n7), .int .i64 (if k≤2 then pd*n2+qd*n5 else pd*n2+qd*n5+rd*n8)] wr)∧Hid (wr.heap[wo.heap.size]? =some (.cells #[.int .i64 n6, .int .i64 n7, .int .i64 n8] 191 (0,0)))∧wo.heap.size+1≤wr.heap.size) (fun i _=>3-(intOf i).toNat)
   case atStart=>exact⟨0,by omega,by omega,rfl,hb.alloc (by omega) _,YJ (H5.out.keep bel),YJ (heap_alloc_new wo _),by simp⟩
   case round=>
    clear hb H5
    obtain⟨k,hk0,hk,rfl,hb,H5,Hx,hsz⟩:=hrel
    have z4:=ah H5.out.v
    have z5:wo.heap.size<wr.heap.size:=by omega
    rcases(by omega:k=0∨k=1∨k=2∨k=3)with rfl|rfl|rfl|rfl
    ·have v0:wr.cell? ⟨N+1+1+1+1,0,none⟩=some (.int .i64 (pd*n0+qd*n3)):=(bq H5.out.v 0).trans rfl
     have y0:wr.cell? ⟨wo.heap.size,0,none⟩=some (.int .i64 n6):=(bq Hx.out 0).trans rfl
     have fz:=aC H5.out.v 0
     go_wp2
     refine aQ 9 (by kernel_rfl) (by kernel_rfl) ?_
     simp only[qdv,qdu,qdw,qdy]
     repeat(first|go_big_quiet_step (fail)|quiet_step (fail))
     refine wpQuiet_nil ?_
     rintro _ ⟨u,rfl⟩
     go_wp2
     go_roundw
     case rel=>exact⟨1,by omega,by omega,rfl,bel,YJ (((H5.out.keep u.below).set 0 _)),YJ ((qaH _ _ _ _ (by simp;omega)).trans ((u.below.block _ (by omega)).trans Hx.out)),by simp;have:=u.below.size;omega⟩
     first|decide|(simp[intOf];done)
    ·have v0:wr.cell? ⟨N+1+1+1+1,1,none⟩=some (.int .i64 (pd*n1+qd*n4)):=(bq H5.out.v 1).trans rfl
     have y0:wr.cell? ⟨wo.heap.size,1,none⟩=some (.int .i64 n7):=(bq Hx.out 1).trans rfl
     have fz:=aC H5.out.v 1
     go_wp2
     refine aQ 9 (by kernel_rfl) (by kernel_rfl) ?_
     simp only[qdv,qdu,qdw,qdy]
     repeat(first|go_big_quiet_step (fail)|quiet_step (fail))
     refine wpQuiet_nil ?_
     rintro _ ⟨u,rfl⟩
     go_wp2
     go_roundw
     case rel=>exact⟨2,by omega,by omega,rfl,bel,YJ (((H5.out.keep u.below).set 1 _)),YJ ((qaH _ _ _ _ (by simp;omega)).trans ((u.below.block _ (by omega)).trans Hx.out)),by simp;have:=u.below.size;omega⟩
     first|decide|(simp[intOf];done)
    ·have v0:wr.cell? ⟨N+1+1+1+1,2,none⟩=some (.int .i64 (pd*n2+qd*n5)):=(bq H5.out.v 2).trans rfl
     have y0:wr.cell? ⟨wo.heap.size,2,none⟩=some (.int .i64 n8):=(bq Hx.out 2).trans rfl
     have fz:=aC H5.out.v 2
     go_wp2
     refine aQ 9 (by kernel_rfl) (by kernel_rfl) ?_
     simp only[qdv,qdu,qdw,qdy]
     repeat(first|go_big_quiet_step (fail)|quiet_step (fail))
     refine wpQuiet_nil ?_
     rintro _ ⟨u,rfl⟩
     go_wp2
     go_roundw
     case rel=>exact⟨3,by omega,by omega,rfl,bel,YJ (((H5.out.keep u.below).set 2 _)),YJ ((qaH _ _ _ _ (by simp;omega)).trans ((u.below.block _ (by omega)).trans Hx.out)),by simp;have:=u.below.size;omega⟩
     first|decide|(simp[intOf];done)
    ·go_wp2
     go_roundw
     case rel=>exact⟨3,by omega,by omega,rfl,hb,YJ H5.out⟩
     first|decide|(simp[intOf];done)
  ·have v0:wo.cell? ⟨N+1+1+1+1,0,none⟩=some (.int .i64 (pd*n0+qd*n3+rd*n6)):=(bq H5.out.v 0).trans rfl
   have v1:wo.cell? ⟨N+1+1+1+1,1,none⟩=some (.int .i64 (pd*n1+qd*n4+rd*n7)):=(bq H5.out.v 1).trans rfl
   have v2:wo.cell? ⟨N+1+1+1+1,2,none⟩=some (.int .i64 (pd*n2+qd*n5+rd*n8)):=(bq H5.out.v 2).trans rfl
   go_wp2_with fail
   refine(sM _ _ _ _ _ (by omega) (by omega) (by omega) (by omega) h0).mono ?_
   rintro e w1 ⟨rfl,hb1⟩
   have ho:=(H5.out.keep hb1).o
   have d0:w1.cell? ⟨N+1+1+1,0,none⟩=some (.int .i64 0):=(bq ho 0).trans rfl
   have d1:w1.cell? ⟨N+1+1+1,1,none⟩=some (.int .i64 0):=(bq ho 1).trans rfl
   have d2:w1.cell? ⟨N+1+1+1,2,none⟩=some (.int .i64 0):=(bq ho 2).trans rfl
   have d3:w1.cell? ⟨N+1+1+1,3,none⟩=some (.int .i64 0):=(bq ho 3).trans rfl
   have f0:=aC ho
   have hw1:Below N w w1:=hb.trans (hb1.mono (by omega))
   have Hm':=YJ Hm.out
   generalize eu (pd*n0+qd*n3+rd*n6) (pd*n1+qd*n4+rd*n7) (pd*n2+qd*n5+rd*n8) den=y at*
   clear v0 v1 v2 H5 Hm
   go_wp2
   refine bodyPost_ret (v:=v4 y) (by simp[results,Tryz.results200,go_sem,d0,d1,d2,d3]) rfl ⟨?_, ?_⟩
   ·rw[Hm'.out]
   ·rw[←HN.out]
    exact bel
def fk (ps:List Q4) (i:Nat):Q4:=ps.getD i (0,0,0,0)
def bN (p q r:Q4):Int:=bj (aN (nrm p) (nrm q)) (nrm r)
def jo (ps:List Q4) (i k m:Nat):List Q4:=
 if bN (fk ps i) (fk ps k) (fk ps m)=0 then []else
 if bG ps (TB (fk ps i) (fk ps k) (fk ps m) (bN (fk ps i) (fk ps k) (fk ps m)))then [TB (fk ps i) (fk ps k) (fk ps m) (bN (fk ps i) (fk ps k) (fk ps m))]else []
def gI (ps:List Q4) (i k m:Nat):List Q4:=(List.range m).flatMap (jo ps i k)
def gJ (ps:List Q4) (i k:Nat):List Q4:=(List.range k).flatMap (fun k=>gI ps i k k)
def raw (ps:List Q4) (i:Nat):List Q4:=(List.range i).flatMap (fun i=>gJ ps i i)
theorem gq (ps:List Q4) (i k m:Nat):gI ps i k (m+1)=gI ps i k m++jo ps i k m:=by simp[gI,List.range_succ]
theorem jZ (ps:List Q4) (i k:Nat):gJ ps i (k+1)=gJ ps i k++gI ps i k k:=by simp[gJ,List.range_succ]
theorem lS (ps:List Q4) (i:Nat):raw ps (i+1)=raw ps i++gJ ps i i:=by simp[raw,List.range_succ]
theorem iz (ps:List Q4) (i k:Nat):gI ps i k 0=[]:=rfl
theorem kd (ps:List Q4) (i:Nat):gJ ps i 0=[]:=rfl
theorem uJ (ps:List Q4) (i k m:Nat):(jo ps i k m).length≤1:=by
 unfold jo
 split
 ·simp
 ·split<;>simp
theorem lT (ps:List Q4) (i k m:Nat):(gI ps i k m).length≤m:=by
 induction m with
 |zero=>simp[gI]
 |succ m ih=>rw[gq,qaE];have:=uJ ps i k m;omega
theorem lU (ps:List Q4) (i k:Nat) (h:k≤64):(gJ ps i k).length≤k*64:=by
 induction k with
 |zero=>simp[gJ]
 |succ k ih=>rw[jZ,qaE];have:=lT ps i k k;have:=ih (by omega);omega
theorem jp (ps:List Q4) (i:Nat) (h:i≤64):(raw ps i).length≤i*4096:=by
 induction i with
 |zero=>simp[raw]
 |succ i ih=>rw[lS,qaE];have:=lU ps i i (by omega);have:=ih (by omega);omega
theorem sO (ps:List Q4) (i k m:Nat) (h:aN (nrm (fk ps i)) (nrm (fk ps k))=(0,0,0)):gI ps i k m=[]:=by
 unfold gI
 simp only[List.flatMap_eq_nil_iff]
 intro x _
 unfold jo
 rw[if_pos]
 simp[bN,h,bj]
theorem Gy (a b c den:Int) (ha: -10000000000≤a∧a≤10000000000) (hb: -10000000000≤b∧b≤10000000000) (hc: -10000000000≤c∧c≤10000000000)
  (hd: -1000000≤den∧den≤1000000) (h0:den≠0):fD (eu a b c den):=by
 have hp:=gj a b c den h0
 have e1:=bH (aY [a,b,c,den] a (by simp))
 have e2:=bH (aY [a,b,c,den] b (by simp))
 have e3:=bH (aY [a,b,c,den] c (by simp))
 have e4:=bH (aY [a,b,c,den] den (by simp))
 have t1:=bZ (g:=aU [a,b,c,den]) ha
 have t2:=bZ (g:=aU [a,b,c,den]) hb
 have t3:=bZ (g:=aU [a,b,c,den]) hc
 have t4:=bZ (g:=aU [a,b,c,den]) hd
 obtain⟨k,hk⟩:=aY [a,b,c,den] den (by simp)
 have hk':den / (aU [a,b,c,den]:Int)=k:=by
  conv=>lhs;lhs;rw[hk]
  exact Int.mul_ediv_cancel_left _ (by omega)
 rw[e1]at t1;rw[e2]at t2;rw[e3]at t3;rw[e4,hk']at t4
 unfold eu fD
 by_cases hn:den<0
 ·rw[if_pos hn,hk']
  have:k<0:=by
   rcases Int.lt_or_le k 0 with h|h
   ·exact h
   ·have:=qgc (Int.le_of_lt (by omega:(0:Int)<aU [a,b,c,den])) h;omega
  simp only
  omega
 ·rw[if_neg hn,hk']
  have:0<k:=by
   rcases Int.lt_or_le 0 k with h|h
   ·exact h
   ·have:=Int.mul_nonpos_of_nonneg_of_nonpos (Int.le_of_lt (by omega:(0:Int)<aU [a,b,c,den])) h;omega
  simp only
  omega
theorem lV (p q r:Q4) (hp:bI p) (hq:bI q) (hr:bI r): -3072≤bN p q r∧bN p q r≤3072:=by
 simp only[bI]at hp hq hr
 have b0:=aL hp.2.1 hp.2.2.1 hq.2.1 hq.2.2.1
 have b1:=aL hp.2.2.1 hp.1 hq.2.2.1 hq.1
 have b2:=aL hp.1 hp.2.1 hq.1 hq.2.1
 have m0:=aJ b0.1 b0.2 hr.1.1 hr.1.2
 have m1:=aJ b1.1 b1.2 hr.2.1.1 hr.2.1.2
 have m2:=aJ b2.1 b2.2 hr.2.2.1.1 hr.2.2.1.2
 simp only[bN,bj,aN,nrm]
 omega
theorem iA {a b c x y z:Int} (ha: -10000000≤a∧a≤10000000) (hb: -10000000≤b∧b≤10000000) (hc: -10000000≤c∧c≤10000000) (hx: -128≤x∧x≤128) (hy: -128≤y∧y≤128) (hz: -128≤z∧z≤128):
  -10000000000≤a*x+b*y+c*z∧a*x+b*y+c*z≤10000000000:=by
 have m0:=aJ ha.1 ha.2 hx.1 hx.2
 have m1:=aJ hb.1 hb.2 hy.1 hy.2
 have m2:=aJ hc.1 hc.2 hz.1 hz.2
 omega
theorem lW (p q r:Q4) (den:Int) (hp:bI p) (hq:bI q) (hr:bI r) (hd: -1000000≤den∧den≤1000000) (h0:den≠0):fD (TB p q r den):=by
 simp only[bI]at hp hq hr
 refine Gy _ _ _ _ ?_ ?_ ?_ hd h0
 ·exact iA hp.2.2.2 hq.2.2.2 hr.2.2.2 (aL hq.2.1 hq.2.2.1 hr.2.1 hr.2.2.1) (aL hr.2.1 hr.2.2.1 hp.2.1 hp.2.2.1) (aL hp.2.1 hp.2.2.1 hq.2.1 hq.2.2.1)
 ·exact iA hp.2.2.2 hq.2.2.2 hr.2.2.2 (aL hq.2.2.1 hq.1 hr.2.2.1 hr.1) (aL hr.2.2.1 hr.1 hp.2.2.1 hp.1) (aL hp.2.2.1 hp.1 hq.2.2.1 hq.1)
 ·exact iA hp.2.2.2 hq.2.2.2 hr.2.2.2 (aL hq.1 hq.2.1 hr.1 hr.2.1) (aL hr.1 hr.2.1 hp.1 hp.2.1) (aL hp.1 hp.2.1 hq.1 hq.2.1)
theorem eN {ps:List Q4} (i:Nat) (hi:i<ps.length):ps[i]=fk ps i:=by
 simp[fk,List.getD,hi]
theorem eV {ps:List Q4} (h:∀p∈ps,bI p) (i:Nat) (hi:i<ps.length):bI (fk ps i):=by
 rw[←eN i hi]
 exact h _ (qaB hi)
def aH (c:Q4):List Value:=[.int .i64 c.1, .int .i64 c.2.1, .int .i64 c.2.2.1, .int .i64 c.2.2.2]
def cQ (p:Q4) (cs:List Q4):Nat:=(cs.filter fun c=>decide (sd p c=0)).length
def NW (out:List Q4) (c:Q4):List Q4:=if c∈out then out else out++[c]
def ct (ps:List Q4):List Q4:=(raw ps ps.length).foldl NW []
def okB (p q r:Q4):Bool:=bN p q r !=0
def lD (p q r:Q4):Q4:=if bN p q r=0 then(0,0,0,0)else TB p q r (bN p q r)
theorem AZ (a b c den:Int) (h0:den≠0):∃g:Int,g≠0∧a=g*(eu a b c den).1∧b=g*(eu a b c den).2.1∧c=g*(eu a b c den).2.2.1∧den=g*(eu a b c den).2.2.2∧0<(eu a b c den).2.2.2:=by
 have hp:=gj a b c den h0
 have d1:=aY [a,b,c,den] a (by simp)
 have d2:=aY [a,b,c,den] b (by simp)
 have d3:=aY [a,b,c,den] c (by simp)
 have d4:=aY [a,b,c,den] den (by simp)
 unfold eu
 generalize aU [a,b,c,den]=g at*
 have e1:=Int.mul_ediv_cancel' d1
 have e2:=Int.mul_ediv_cancel' d2
 have e3:=Int.mul_ediv_cancel' d3
 have e4:=Int.mul_ediv_cancel' d4
 have hg:(0:Int)<g:=by omega
 split
 ·rename_i hneg
  refine⟨-(g:Int),by omega,by simp only;grind,by simp only;grind,by simp only;grind,by simp only;grind, ?_⟩
  simp only
  have:¬0≤den / (g:Int):=fun h=>by have:=qgc (Int.le_of_lt hg) h;omega
  omega
 ·refine⟨(g:Int),by omega,e1.symm,e2.symm,e3.symm,e4.symm, ?_⟩
  simp only
  have h1:¬den / (g:Int)≤0:=fun h=>by
   have:0≤(g:Int)*(-(den / (g:Int))):=qgc (Int.le_of_lt hg) (by omega)
   rw[Int.mul_neg]at this
   omega
  omega
def cw (p x:Q4):Int:=p.1*x.1+p.2.1*x.2.1+p.2.2.1*x.2.2.1-p.2.2.2*x.2.2.2
def IV (p:Q4):Nat:=aU [p.1,p.2.1,p.2.2.1,p.2.2.2]
def eL (p:Q4):Q4:=if 1<IV p then dG p else p
abbrev Bod:=List Q4×List Q4
def onA (cs:List Q4) (p:Q4):Nat:=(cs.filter fun x=>cw p x==0).length
def nf (ps cs:List Q4):List Q4:=ps.filter fun p=>decide (3≤onA cs p)
def bp (ps:List Q4):Bod:=(nf ps (ct ps),ct ps)
def Ob (p:Q4) (cs:List Q4):List Q4:=(cs.filter fun x=>decide (cw p x≤0)).foldl NW []
def py (p:Q4) (ps:List Q4) (i k:Nat):List Q4:=
 if okB p (fk ps i) (fk ps k)&&bG (ps++[p]) (lD p (fk ps i) (fk ps k))then [lD p (fk ps i) (fk ps k)]else []
def pK (p:Q4) (ps:List Q4) (i k:Nat):List Q4:=(List.range k).flatMap (py p ps i)
def Cu (p:Q4) (ps:List Q4) (i:Nat):List Q4:=(List.range i).flatMap fun i=>pK p ps i i
def ol (p:Q4) (b:Bod) (i k:Nat):List Q4:=(Cu p b.1 i++pK p b.1 i k).foldl NW (Ob p b.2)
def wiA (p:Q4) (cs:List Q4):Bool:=cs.any fun x=>decide (cw p x<0)
def beA (p:Q4) (cs:List Q4):Bool:=cs.any fun x=>decide (0<cw p x)
def IW (b:Bod) (p:Q4):Bod:=(nf (b.1++[p]) (ol p b b.1.length 0),ol p b b.1.length 0)
def qm (b:Bod) (p:Q4):Bod×Bool:=
 if wiA (eL p) b.2&&beA (eL p) b.2 then(IW b (eL p),true)else(b,wiA (eL p) b.2)
def BU (q:Option Bod) (x:Q4):Option Bod:=q.bind fun q=>if(qm q x).2 then some (qm q x).1 else none
def axA (i:Nat) (x:Q4):Int:=if i=0 then x.1 else if i=1 then x.2.1 else x.2.2.1
def flA (i:Nat) (x:Q4):Int:=axA i x / x.2.2.2
def clA (i:Nat) (x:Q4):Int:=if axA i x % x.2.2.2=0 then flA i x else flA i x+1
def eT (i:Nat):List Q4→Int
 | []=>0
 |x::xs=>xs.foldl (fun m y=>min m (flA i y)) (flA i x)
def bt (i:Nat):List Q4→Int
 | []=>0
 |x::xs=>xs.foldl (fun m y=>max m (clA i y)) (clA i x)
theorem Cv (i:Nat) (l:List Q4) (x:Q4) (h:l≠[]):eT i (l++[x])=min (eT i l) (flA i x):=by
 match l,h with
 |y::l,_=>simp[eT]
theorem Zf (i:Nat) (l:List Q4) (x:Q4) (h:l≠[]):bt i (l++[x])=max (bt i l) (clA i x):=by
 match l,h with
 |y::l,_=>simp[bt]
def stA (i:Nat) (w:Q3):Int:=if i=0 then w.1 else if i=1 then w.2.1 else w.2.2
def wd (p q:List Q4) (w:Q3) (i:Nat):Bool:=(decide (stA i w≤0)&&decide (bt i p≤eT i q)) || (decide (0≤stA i w)&&decide (bt i q≤eT i p))
def CQ (p q:List Q4) (w:Q3):Bool:=wd p q w 0 || (wd p q w 1 || wd p q w 2)
def kv (x y:Q4) (w:Q3):Q4:=
 (x.1* -(bj (nrm y) w)+y.1*bj (nrm x) w,x.2.1* -(bj (nrm y) w)+y.2.1*bj (nrm x) w,x.2.2.1* -(bj (nrm y) w)+y.2.2.1*bj (nrm x) w,x.2.2.2* -(bj (nrm y) w)+y.2.2.2*bj (nrm x) w)
def zn (w:Q3) (q:Option Bod) (x:Q4):Option Bod:=if bj (nrm x) w≤0 then BU q x else q
def BW (x:Q4) (w:Q3) (q:Option Bod) (y:Q4):Option Bod:=if nrm (kv x y w)=(0,0,0)then q else BU q (kv x y w)
def cr (p:List Q4) (w:Q3):List Q4:=p.filter fun x=>decide (0<bj (nrm x) w)
def bc (p:List Q4) (w:Q3):List Q4:=p.filter fun x=>decide (bj (nrm x) w<0)
def DV (p q:Bod) (w:Q3):Option Bod:=
 (cr p.1 w).foldl (fun q x=>(bc p.1 w).foldl (BW x w) q) (p.1.foldl (zn w) (some q))
def eS (p q:Bod) (w:Q3):Bool:=if CQ p.2 q.2 w then false else(DV p q w).isSome
def BT (p q:List Bod) (w:Q3):Bool:=p.any fun a=>q.any fun b=>eS a b w
def okW (p:Q4):Prop:=(-384≤p.1∧p.1≤384)∧(-384≤p.2.1∧p.2.1≤384)∧(-384≤p.2.2.1∧p.2.2.1≤384)∧(-480000000≤p.2.2.2∧p.2.2.2≤480000000)
def okX (c:Q4):Prop:=(-500000000000000≤c.1∧c.1≤500000000000000)∧(-500000000000000≤c.2.1∧c.2.1≤500000000000000)∧(-500000000000000≤c.2.2.1∧c.2.2.1≤500000000000000)∧(1≤c.2.2.2∧c.2.2.2≤400000000)
theorem DW {p:Q4} (h:bI p):okW p:=by unfold bI at h;unfold okW;omega
theorem IX {p:Q4} (h:fD p):okX p:=by unfold fD at h;unfold okX;omega
theorem IY (p c:Q4):(0<sd p c↔0<cw p c)∧(sd p c<0↔cw p c<0)∧(sd p c=0↔cw p c=0):=by
 simp only[sd,uA,sgn,cw]
 split
 ·omega
 ·split<;>omega
theorem wh (p:Q4) (ps:List Q4) (i k:Nat):pK p ps i (k+1)=pK p ps i k++py p ps i k:=by simp[pK,List.range_succ]
theorem Cw (p:Q4) (ps:List Q4) (i:Nat):Cu p ps (i+1)=Cu p ps i++pK p ps i i:=by simp[Cu,List.range_succ]
theorem QU (p:Q4) (b:Bod) (i:Nat):ol p b i i=ol p b (i+1) 0:=by
 unfold ol
 rw[Cw];simp[pK]
theorem KH (p:Q4) (b:Bod) (i k:Nat) (h:okB p (fk b.1 i) (fk b.1 k)=false):ol p b i (k+1)=ol p b i k:=by
 unfold ol
 rw[wh];unfold py;simp[h]
theorem IZ (p:Q4) (b:Bod) (i k:Nat) (h:bG (b.1++[p]) (lD p (fk b.1 i) (fk b.1 k))=false):ol p b i (k+1)=ol p b i k:=by
 unfold ol
 rw[wh];unfold py;simp[h]
theorem Ja (p:Q4) (b:Bod) (i k:Nat) (h:okB p (fk b.1 i) (fk b.1 k)=true) (ha:bG (b.1++[p]) (lD p (fk b.1 i) (fk b.1 k))=true):ol p b i (k+1)=NW (ol p b i k) (lD p (fk b.1 i) (fk b.1 k)):=by
 unfold ol
 rw[wh, ←List.append_assoc,List.foldl_append];unfold py;simp[h,ha]
theorem GV (p:Q4) (b:Bod):ol p b 0 0=Ob p b.2:=by simp[ol,Cu,pK]
theorem GW (p:Q4) (l:List Q4) (x:Q4):Ob p (l++[x])=if cw p x≤0 then NW (Ob p l) x else Ob p l:=by
 unfold Ob
 rw[qgo,List.foldl_append]
 by_cases h:cw p x≤0
 ·simp[h]
 ·simp[h]
theorem Jb (out:List Q4) (c:Q4):(NW out c).length≤out.length+1:=by unfold NW;split<;>simp
theorem Om (l:List Q4):∀out,(l.foldl NW out).length≤out.length+l.length:=by
 induction l with
 |nil=>intro out;simp
 |cons c l ih=>
  intro out
  rw[List.foldl_cons]
  have:=ih (NW out c)
  have h2:=Jb out c
  simp only[qdn]
  omega
theorem Db (p:Q4) (l:List Q4):(Ob p l).length≤l.length:=by
 have:=Om (l.filter fun x=>decide (cw p x≤0)) []
 have h2:=qdz (fun x=>decide (cw p x≤0)) l
 unfold Ob
 simp only[List.length_nil]at this
 omega
theorem GX (p:Q4) (ps:List Q4) (i k:Nat):(py p ps i k).length≤1:=by unfold py;split<;>simp
theorem BJ (p:Q4) (ps:List Q4) (i k:Nat):(pK p ps i k).length≤k:=by
 induction k with
 |zero=>simp[pK]
 |succ k ih=>rw[wh,qaE];have:=GX p ps i k;omega
theorem Jc (p:Q4) (ps:List Q4) (i:Nat) (h:i≤200):(Cu p ps i).length≤i*200:=by
 induction i with
 |zero=>simp[Cu]
 |succ i ih=>rw[Cw,qaE];have:=BJ p ps i i;have:=ih (by omega);omega
theorem EA (p:Q4) (b:Bod) (i k:Nat) (hi:i≤200) (hk:k≤200):(ol p b i k).length≤b.2.length+40200:=by
 have:=Om (Cu p b.1 i++pK p b.1 i k) (Ob p b.2)
 have h1:=Jc p b.1 i hi
 have h2:=BJ p b.1 i k
 have h3:=Db p b.2
 unfold ol
 simp only[qaE]at this
 omega
theorem ak {a b x y:Int} (ha: -384≤a∧a≤384) (hb: -384≤b∧b≤384) (hx: -384≤x∧x≤384) (hy: -384≤y∧y≤384): -294912≤a*y-b*x∧a*y-b*x≤294912:=by
 have h1:=aJ ha.1 ha.2 hy.1 hy.2
 have h2:=aJ hb.1 hb.2 hx.1 hx.2
 omega
theorem Gz (p q r:Q4) (hp:okW p) (hq:okW q) (hr:okW r): -400000000≤bN p q r∧bN p q r≤400000000:=by
 simp only[okW]at hp hq hr
 have b0:=ak hp.2.1 hp.2.2.1 hq.2.1 hq.2.2.1
 have b1:=ak hp.2.2.1 hp.1 hq.2.2.1 hq.1
 have b2:=ak hp.1 hp.2.1 hq.1 hq.2.1
 have m0:=aJ b0.1 b0.2 hr.1.1 hr.1.2
 have m1:=aJ b1.1 b1.2 hr.2.1.1 hr.2.1.2
 have m2:=aJ b2.1 b2.2 hr.2.2.1.1 hr.2.2.1.2
 simp only[bN,bj,aN,nrm]
 omega
theorem Dc {a b c x y z:Int} (ha: -480000000≤a∧a≤480000000) (hb: -480000000≤b∧b≤480000000) (hc: -480000000≤c∧c≤480000000) (hx: -294912≤x∧x≤294912) (hy: -294912≤y∧y≤294912) (hz: -294912≤z∧z≤294912):
  -500000000000000≤a*x+b*y+c*z∧a*x+b*y+c*z≤500000000000000:=by
 have m0:=aJ ha.1 ha.2 hx.1 hx.2
 have m1:=aJ hb.1 hb.2 hy.1 hy.2
 have m2:=aJ hc.1 hc.2 hz.1 hz.2
 omega
theorem Jd (a b c den:Int) (ha: -500000000000000≤a∧a≤500000000000000) (hb: -500000000000000≤b∧b≤500000000000000) (hc: -500000000000000≤c∧c≤500000000000000)
  (hd: -400000000≤den∧den≤400000000) (h0:den≠0):okX (eu a b c den):=by
 have hp:=gj a b c den h0
 have e1:=bH (aY [a,b,c,den] a (by simp))
 have e2:=bH (aY [a,b,c,den] b (by simp))
 have e3:=bH (aY [a,b,c,den] c (by simp))
 have e4:=bH (aY [a,b,c,den] den (by simp))
 have t1:=bZ (g:=aU [a,b,c,den]) ha
 have t2:=bZ (g:=aU [a,b,c,den]) hb
 have t3:=bZ (g:=aU [a,b,c,den]) hc
 have t4:=bZ (g:=aU [a,b,c,den]) hd
 have hs:=(AZ a b c den h0).choose_spec.2.2.2.2.2
 rw[e1]at t1;rw[e2]at t2;rw[e3]at t3;rw[e4]at t4
 unfold eu okX at*
 by_cases hn:den<0
 ·rw[if_pos hn]at hs ⊢
  simp only at hs ⊢
  omega
 ·rw[if_neg hn]at hs ⊢
  simp only at hs ⊢
  omega
theorem De (p q r:Q4) (hp:okW p) (hq:okW q) (hr:okW r) (h:okB p q r=true):okX (lD p q r):=by
 have h0:bN p q r≠0:=by simpa [okB]using h
 unfold lD
 rw[if_neg h0]
 have hd:=Gz p q r hp hq hr
 simp only[okW]at hp hq hr
 refine Jd _ _ _ _ ?_ ?_ ?_ hd h0
 ·exact Dc hp.2.2.2 hq.2.2.2 hr.2.2.2 (ak hq.2.1 hq.2.2.1 hr.2.1 hr.2.2.1) (ak hr.2.1 hr.2.2.1 hp.2.1 hp.2.2.1) (ak hp.2.1 hp.2.2.1 hq.2.1 hq.2.2.1)
 ·exact Dc hp.2.2.2 hq.2.2.2 hr.2.2.2 (ak hq.2.2.1 hq.1 hr.2.2.1 hr.1) (ak hr.2.2.1 hr.1 hp.2.2.1 hp.1) (ak hp.2.2.1 hp.1 hq.2.2.1 hq.1)
 ·exact Dc hp.2.2.2 hq.2.2.2 hr.2.2.2 (ak hq.1 hq.2.1 hr.1 hr.2.1) (ak hr.1 hr.2.1 hp.1 hp.2.1) (ak hp.1 hp.2.1 hq.1 hq.2.1)
theorem Je (p:Q4) (h:okW p):okW (dG p):=by
 have e1:=bH (aY [p.1,p.2.1,p.2.2.1,p.2.2.2] p.1 (by simp))
 have e2:=bH (aY [p.1,p.2.1,p.2.2.1,p.2.2.2] p.2.1 (by simp))
 have e3:=bH (aY [p.1,p.2.1,p.2.2.1,p.2.2.2] p.2.2.1 (by simp))
 have e4:=bH (aY [p.1,p.2.1,p.2.2.1,p.2.2.2] p.2.2.2 (by simp))
 unfold okW at*
 obtain⟨h1,h2,h3,h4⟩:=h
 have t1:=bZ (g:=aU [p.1,p.2.1,p.2.2.1,p.2.2.2]) h1
 have t2:=bZ (g:=aU [p.1,p.2.1,p.2.2.1,p.2.2.2]) h2
 have t3:=bZ (g:=aU [p.1,p.2.1,p.2.2.1,p.2.2.2]) h3
 have t4:=bZ (g:=aU [p.1,p.2.1,p.2.2.1,p.2.2.2]) h4
 rw[e1]at t1;rw[e2]at t2;rw[e3]at t3;rw[e4]at t4
 exact⟨t1,t2,t3,t4⟩
theorem EB (p:Q4) (h:okW p):okW (eL p):=by
 unfold eL;split
 ·exact Je p h
 ·exact h
theorem Jf (x y:Q4) (w:Q3) (hx:bI x) (hy:bI y) (hw:(-1≤w.1∧w.1≤1)∧(-1≤w.2.1∧w.2.1≤1)∧(-1≤w.2.2∧w.2.2≤1)):okW (kv x y w):=by
 have db:∀p:Q4,bI p→ -24≤bj (nrm p) w∧bj (nrm p) w≤24:=fun p hp=>by
  unfold bI at hp
  have m0:=aJ hp.1.1 hp.1.2 hw.1.1 hw.1.2
  have m1:=aJ hp.2.1.1 hp.2.1.2 hw.2.1.1 hw.2.1.2
  have m2:=aJ hp.2.2.1.1 hp.2.2.1.2 hw.2.2.1 hw.2.2.2
  simp only[bj,nrm]
  omega
 have ha:=db x hx
 have hb:=db y hy
 unfold bI at hx hy
 unfold okW kv
 simp only
 generalize bj (nrm x) w=a at*
 generalize bj (nrm y) w=b at*
 have b': -24≤ -b∧ -b≤24:=by omega
 have m0:=aJ hx.1.1 hx.1.2 b'.1 b'.2
 have m1:=aJ hx.2.1.1 hx.2.1.2 b'.1 b'.2
 have m2:=aJ hx.2.2.1.1 hx.2.2.1.2 b'.1 b'.2
 have m3:=aJ hx.2.2.2.1 hx.2.2.2.2 b'.1 b'.2
 have n0:=aJ hy.1.1 hy.1.2 ha.1 ha.2
 have n1:=aJ hy.2.1.1 hy.2.1.2 ha.1 ha.2
 have n2:=aJ hy.2.2.1.1 hy.2.2.1.2 ha.1 ha.2
 have n3:=aJ hy.2.2.2.1 hy.2.2.2.2 ha.1 ha.2
 omega
end
section
open Go.RowKit
section
variable {P:Program} {ops:Array Oper} {md:Region.Mode} {Q:Exit→Act→World→Prop}
def aM (ops:Array Oper) (j:Nat):Option Tmp:=(ops[j]?).bind (·.dst)
def yb (ops:Array Oper) (listed:Array Bool) (d:Nat):Option Nat:=(List.range ops.size).find? fun j=>listed.getD j false&&(aM ops j==some d)
def frm (ops:Array Oper) (a0:Act) (vals:Nat→Value) (listed:Array Bool):Act:=
 {a0 with tmps:=a0.tmps.mapIdx fun d v=>match yb ops listed d with|some j=>vals j|none=>v}
def upd (vals:Nat→Value) (i:Nat) (v:Value):Nat→Value:=fun j=>if j=i then v else vals j
def gZ (ops:Array Oper):Bool:=(List.range ops.size).all fun i=>(List.range ops.size).all fun j=>i==j || aM ops i==none || aM ops i !=aM ops j
theorem qJ (h:gZ ops=true) {i j d:Nat} (hi:aM ops i=some d) (hj:aM ops j=some d):i=j:=by
 have lt:∀k d,aM ops k=some d→k<ops.size:=fun k d hk=>by
  rcases Nat.lt_or_ge k ops.size with h|h
  ·exact h
  ·unfold aM at hk;rw[Array.getElem?_eq_none h]at hk;cases hk
 have:=alsi.1 (alsi.1 h i (ultv.2 (lt i d hi))) j (ultv.2 (lt j d hj))
 rw[hi,hj]at this
 simpa using this
theorem gr {listed:Array Bool} {d j:Nat} (h:yb ops listed d=some j):listed.getD j false=true∧aM ops j=some d:=by
 have:=List.find?_some h
 simpa using this
theorem xp (hd:gZ ops=true) {listed:Array Bool} {d j:Nat} (hl:listed.getD j false=true) (hj:aM ops j=some d):yb ops listed d=some j:=by
 cases h:yb ops listed d with
 |some k=>rw[qJ hd (gr h).2 hj]
 |none=>
  have hlt:j<ops.size:=by
   rcases Nat.lt_or_ge j ops.size with h|h
   ·exact h
   ·unfold aM at hj;rw[Array.getElem?_eq_none h]at hj;cases hj
  have:=List.find?_eq_none.1 h j (ultv.2 hlt)
  simp[hl,hj]at this
theorem oW {listed:Array Bool} {i d:Nat} (hne:aM ops i≠some d):yb ops (listed.setIfInBounds i true) d=yb ops listed d:=by
 unfold yb
 congr 1
 funext j
 by_cases h:i=j
 ·subst h
  have:(aM ops i==some d)=false:=by simpa using hne
  rw[this,Bool.and_false,Bool.and_false]
 ·rw[getD_set_ne false h]
theorem dU (hd:gZ ops=true) {a0:Act} {vals:Nat→Value} {listed:Array Bool} {i:Nat} {v:Value} (hi:i<listed.size):
  (frm ops a0 vals listed).put (aM ops i) v=frm ops a0 (upd vals i v) (listed.setIfInBounds i true):=by
 have hset:(listed.setIfInBounds i true).getD i false=true:=by simp[Array.getD,hi]
 have hupd:∀d j,aM ops i≠some d→yb ops listed d=some j→upd vals i v j=vals j:=fun d j hne hj=>by
  have:j≠i:=by rintro rfl;exact hne (gr hj).2
  simp[upd,this]
 cases hdi:aM ops i with
 |none=>
  have hne:∀d,aM ops i≠some d:=fun d=>by rw[hdi];simp
  show frm ops a0 vals listed=_
  unfold frm
  congr 1
  apply Array.ext (by simp)
  intro d h1 h2
  simp only[Array.getElem_mapIdx]
  rw[oW (hne d)]
  cases h:yb ops listed d with
  |none=>rfl
  |some j=>exact(hupd d j (hne d) h).symm
 |some t=>
  show(⟨(frm ops a0 vals listed).tmps.setIfInBounds t v,a0.defers⟩:Act)=⟨(frm ops a0 (upd vals i v) (listed.setIfInBounds i true)).tmps,a0.defers⟩
  unfold frm
  simp only
  congr 1
  apply Array.ext (by simp)
  intro d h1 h2
  simp only[Array.getElem_mapIdx]
  by_cases htd:t=d
  ·subst htd
   rw[xp hd hset hdi]
   simp[upd]
  ·have hne:aM ops i≠some d:=by rw[hdi];simpa using htd
   rw[Array.getElem_setIfInBounds_ne (by simpa using h2) htd,Array.getElem_mapIdx,oW hne]
   cases h:yb ops listed d with
   |none=>rfl
   |some j=>exact(hupd d j hne h).symm
theorem lX {L1 L2:Array Bool} {d:Nat} (h:∀j,aM ops j=some d→L1.getD j false=L2.getD j false):yb ops L1 d=yb ops L2 d:=by
 unfold yb
 congr 1
 funext j
 by_cases hj:aM ops j=some d
 ·rw[h j hj]
 ·have:(aM ops j==some d)=false:=by simpa using hj
  rw[this,Bool.and_false,Bool.and_false]
theorem gA (o:Oper) (hs:∀cs b,o.op≠ .select cs b) {a0:Act} {vals:Nat→Value} {L1 L2:Array Bool}
  (h:∀d∈o.looksAt ops,∀j,aM ops j=some d→L1.getD j false=L2.getD j false):execOp (frm ops a0 vals L1).eval o=execOp (frm ops a0 vals L2).eval o:=by
 refine execOp_congr o hs fun x hx=> ?_
 cases x with
 |tmp d=>
  have hd:d∈o.looksAt ops:=List.mem_append_left _ (List.mem_filterMap.2 ⟨.tmp d,by simpa using hx,rfl⟩)
  have:=lX (h d hd)
  simp[Act.eval,frm,this]
 |_=>rfl
theorem eC (o:Oper) {a0:Act} {vals:Nat→Value} {L1 L2:Array Bool} (h:∀d∈o.looksAt ops,∀j,aM ops j=some d→L1.getD j false=L2.getD j false):
  Region.wanted o (yielded ops (frm ops a0 vals L1).tmps)=Region.wanted o (yielded ops (frm ops a0 vals L2).tmps):=by
 unfold Region.wanted
 cases hg:o.guard with
 |none=>rfl
 |some gw=>
  obtain⟨g,want⟩:=gw
  have:yielded ops (frm ops a0 vals L1).tmps g=yielded ops (frm ops a0 vals L2).tmps g:=by
   unfold yielded
   cases ho:(ops[g]?).bind (·.dst)with
   |none=>rfl
   |some d=>
    have hd:d∈o.looksAt ops:=List.mem_append_right _ (by simp[hg,ho])
    have:=lX (h d hd)
    simp[frm,this]
  simp only[this]
theorem xq {a:Act} {d:Nat} {v v':Value} (hd:d<a.tmps.size) (h:a.put (some d) v=a.put (some d) v'):v=v':=by
 have h1:(a.put (some d) v).tmps[d]? =some v:=by simp[Act.put,hd]
 have h2:(a.put (some d) v').tmps[d]? =some v':=by simp[Act.put,hd]
 rw[h,h2]at h1
 exact(qgb h1).symm
theorem iB {o:Oper} {a a':Act} {w:World} {φ:Value→World→Prop} {d:Nat} (he:execOp a'.eval o=execOp a.eval o) (hd:o.dst=some d) (hs:d<a.tmps.size)
  (h:o.wp P a w (fun x w''=>∃v,x=a.put o.dst v∧φ v w'') (NoPanic Q)):o.wp P a' w (fun x w''=>∃v,x=a'.put o.dst v∧φ v w'') (NoPanic Q):=by
 have back:∀v w'',(∃u,a.put o.dst v=a.put o.dst u∧φ u w'')→∃u,a'.put o.dst v=a'.put o.dst u∧φ u w'':=by
  rintro v w'' ⟨u,hu,hp⟩
  rw[hd]at hu
  have:=xq hs hu
  subst this
  exact⟨v,rfl,hp⟩
 unfold Oper.wp at*
 rw[he]
 generalize(execOp a.eval o).run P w=r at*
 cases r with
 |ok n w'=>
  cases n<;>simp only[Oper.upon]at h ⊢
  case value v=>exact back _ _ h
  case skip=>exact back _ _ h
  case defer dd=>
   obtain⟨u,hu,_⟩:=h
   rw[hd]at hu
   have:=congrArg Act.defers hu
   simp[Act.put]at this
  case enter f args=>exact h.mono fun e w'' he=>by cases e<;>first|exact back _ _ he|exact he
  case row r args=>exact h.mono fun v w'' hv=>back _ _ hv
 |halt hh w'=>cases hh<;>simp only[Oper.upon]at h ⊢ <;>exact h
def bw (ops:Array Oper) (ci:List Nat) (i:Nat):Array Bool:=((List.range ops.size).map fun j=>decide (j<i)&&ci.contains j).toArray
theorem bg (ci:List Nat) (i j:Nat):(bw ops ci i).getD j false=(decide (j<ops.size)&&decide (j<i)&&ci.contains j):=by
 unfold bw
 by_cases h:j<ops.size
 ·simp[Array.getD,h]
 ·simp[Array.getD,h]
def kP (md:Region.Mode) (ops:Array Oper) (ci:List Nat) (t0:Nat) (ts:List Nat):Bool:=
 Region.noSelect ops&&gZ ops&&decide ci.Nodup&&decide (ci.Pairwise (· < ·))&&((t0::ts).all fun t=>decide (t<ops.size))&&decide (ci.length+(ts.length+1)=ops.size)&&fQ md ops t0 ci&&cT md ops (t0::ts)&&
 (ci.all fun i=> !(t0::ts).contains i)&&((List.range ops.size).all fun j=>ci.contains j || (t0::ts).contains j)&&
 (ci.all fun i=>match ops[i]? with
  |some o=>(o.after.all fun e=> !Region.binds md e || (decide (e.on<i)&&ci.contains e.on))&&
    ((List.range ops.size).all fun j=>(t0::ts).contains j || Region.waitsFor md ops i j || !((aM ops j).any fun d=>(o.looksAt ops).contains d))
  |none=>false)&&
 bJ md ops (t0::ts) (bw ops ci ops.size)
def gOp (P:Program) (md:Region.Mode) (ops:Array Oper) (R:Nat→Value→World→Prop) (w0:World) (Q:Exit→Act→World→Prop) (i:Nat) (vals:Nat→Value) (a:Act):Prop:=
 ∀w',Below w0.heap.size w0 w'→(∀j,Region.waitsFor md ops i j=true→R j (vals j) w')→
  ∃o d,ops[i]? =some o∧o.dst=some d∧d<a.tmps.size∧if Region.wanted o (yielded ops a.tmps)=true then o.wp P a w' (fun x w''=>∃v,x=a.put o.dst v∧Below w'.heap.size w' w''∧R i v w'') (NoPanic Q)else R i undef w'
theorem fy {ci:List Nat} (hn:ci.Nodup) {listed:Array Bool} {i:Nat} (hi:i∈ci) (hl:listed.getD i true=false):
  (ci.filter fun j=> !(listed.setIfInBounds i true).getD j false).length+1=(ci.filter fun j=> !listed.getD j false).length:=by
 have hlt:i<listed.size:=by
  rcases Nat.lt_or_ge i listed.size with h|h
  ·exact h
  ·simp[Array.getD,Nat.not_lt.2 h]at hl
 induction ci with
 |nil=>cases hi
 |cons x l ih=>
  have hx:x ∉ l:=(List.nodup_cons.1 hn).1
  have hn':=(List.nodup_cons.1 hn).2
  by_cases hxi:x=i
  ·subst hxi
   have h1:(listed.setIfInBounds x true).getD x false=true:=by simp[Array.getD,hlt]
   have h2:listed.getD x false=false:=getD_both hl
   have h3:(l.filter fun j=> !(listed.setIfInBounds x true).getD j false)=l.filter fun j=> !listed.getD j false:=by
    apply List.filter_congr
    intro j hj
    rw[getD_set_ne false (by rintro rfl;exact hx hj)]
   rw[qgg,qgg,h1,h2,h3]
   simp
  ·have hil:i∈l:=by
    rcases alsk.1 hi with h|h
    ·exact absurd h.symm hxi
    ·exact h
   have:=ih hn' hil
   rw[qgg,qgg,getD_set_ne false (fun h=>hxi h.symm)]
   split
   ·simpa using this
   ·exact this
theorem dO {a0:Act} {vals vals':Nat→Value} {L:Array Bool} (h:∀j,L.getD j false=true→vals j=vals' j):frm ops a0 vals L=frm ops a0 vals' L:=by
 unfold frm
 congr 1
 apply Array.ext (by simp)
 intro d h1 h2
 simp only[Array.getElem_mapIdx]
 cases ho:yb ops L d with
 |none=>rfl
 |some j=>exact h j (gr ho).1
theorem si {A B:Array Bool} (hs:A.size=B.size) (h:∀j,A.getD j false=B.getD j false):A=B:=by
 apply Array.ext hs
 intro j h1 h2
 have:=h j
 simpa [Array.getD,h1,h2]using this
theorem eD (ci:List Nat) (i:Nat):(bw ops ci i).size=ops.size:=by simp[bw]
theorem jq {pre:List Nat} {i:Nat} (hi:i<ops.size):(bw ops pre ops.size).setIfInBounds i true=bw ops (pre++[i]) ops.size:=by
 apply si (by simp[eD])
 intro j
 by_cases h:i=j
 ·subst h
  rw[bg]
  simp[Array.getD,eD,hi]
 ·rw[getD_set_ne false h,bg,bg]
  have:¬j=i:=fun e=>h e.symm
  simp[this]
theorem jr {pre l:List Nat} {i:Nat} (hp:(pre++i::l).Pairwise (· < ·)):bw ops (pre++i::l) i=bw ops pre ops.size:=by
 apply si (by simp[eD])
 intro j
 rw[bg,bg]
 obtain⟨_,h2,h3⟩:=List.pairwise_append.1 hp
 have h4:=(List.pairwise_cons.1 h2).1
 by_cases hj:j<ops.size
 ·by_cases hm:j∈pre
  ·have:=h3 j hm i (by simp)
   simp[hj,hm,this]
  ·by_cases hji:j<i
   ·have:j ∉ i::l:=fun hh=>by
     rcases alsk.1 hh with rfl|hh
     ·omega
     ·have:=h4 j hh;omega
    simp_all
   ·simp[hj,hm,hji]
 ·simp[hj]
theorem dD {a0:Act} {vals:Nat→Value} {L:Array Bool} (h:∀j,L.getD j false=false):frm ops a0 vals L=a0:=by
 have hn:∀d,yb ops L d=none:=fun d=>by
  cases ho:yb ops L d with
  |none=>rfl
  |some j=>have:=(gr ho).1;rw[h j]at this;cases this
 show(⟨a0.tmps.mapIdx fun d v=>match yb ops L d with|some j=>vals j|none=>v,a0.defers⟩:Act)=⟨a0.tmps,a0.defers⟩
 congr 1
 apply Array.ext (by simp)
 intro d h1 h2
 simp only[Array.getElem_mapIdx,hn d]
end
end
section
open Go.RowKit
section
variable {P:Program} {ops:Array Oper} {md:Region.Mode} {Q:Exit→Act→World→Prop} {R:Nat→Value→World→Prop} {w0:World} {F:(Nat→Value)→Act→Prop}
theorem hr {i:Nat} {vals:Nat→Value} {w:World} (hR:∀j,Region.waitsFor md ops i j=true→R j (vals j) w) (j:Nat) (h:Region.waitsFor md ops i j=true:=by kernel_rfl):R j (vals j) w:=hR j h
end
def dR (r:Value→World→Prop):Prop:=∀v w w',Below w.heap.size w w'→r v w→r v w'
def Stabs (l:List (Value→World→Prop)):Prop:=∀r∈l,dR r
theorem Stabs.nil:Stabs []:=fun _ h=>by cases h
theorem Stabs.cons {r:Value→World→Prop} {l:List (Value→World→Prop)} (h:dR r) (t:Stabs l):Stabs (r::l):=fun s hs=>by
 rcases alsk.1 hs with rfl|hs
 ·exact h
 ·exact t s hs
def IsV (c:Value):Value→World→Prop:=fun v _=>v=c
theorem TC (c:Value):dR (IsV c):=fun _ _ _ _ h=>h
def pick (l:List (Value→World→Prop)) (i:Nat) (v:Value) (w:World):Prop:=(l.getD i (fun _ _=>True)) v w
theorem Stabs.pick {l:List (Value→World→Prop)} (h:Stabs l):∀i v w w',Below w.heap.size w w'→pick l i v w→pick l i v w':=fun i v w w' hb hp=>by
 unfold Go.Proofs.YtffbilcjhlncfaaGreatDoor.pick at*
 by_cases hi:i<l.length
 ·have e:l.getD i (fun _ _=>True)=l[i]:=by simp[List.getD,hi]
  rw[e]at hp ⊢
  exact h _ (qaB hi) v w w' hb hp
 ·have e:l.getD i (fun _ _=>True)=(fun _ _=>True):=by simp[List.getD,hi]
  rw[e]
  trivial
end
section
open Go.RowKit Go.Shelf
attribute [local go_sem] Ext.cell Ext.frozen
def yd (B:Nat) (T:TypeId) (cs:Array Value):Value→World→Prop:=fun v w=>∃g,v= .pointer (some ⟨g,0,none⟩)∧B≤g∧w.heap[g]? =some (.cells cs T (0,0))
theorem ar (B:Nat) (T:TypeId) (cs:Array Value):dR (yd B T cs):=fun _ _ _ hb ⟨g,h1,h2,h3⟩=>⟨g,h1,h2,(hb.block g (ah h3)).trans h3⟩
theorem sj (n:Int) (w:World) (hn: -1000000000000000≤n∧n≤1000000000000000):Calls Tryz.prog 129 #[.int .i64 n] w fun e w'=>e= .returned (.int .i64 (n.natAbs:Int))∧w=w':=by
 by_cases h:0≤n
 ·go_enter Tryz.func129,Tryz.ntmps129
  go_wp2
  all_goals go_ret
  all_goals exact⟨aK (by omega),rfl⟩
 ·go_enter Tryz.func129,Tryz.ntmps129
  go_wp2
  all_goals go_ret
  all_goals exact⟨aK (by omega),rfl⟩
end
section
open Go.RowKit
section
variable {P:Program} {ops:Array Oper} {md:Region.Mode} {Q:Exit→Act→World→Prop}
def uK (md:Region.Mode) (ops:Array Oper) (z:Nat):Bool:=
 match ops[z]? with
 |none=>false
 |some o=>(List.range ops.size).all fun j=>j==z || Region.waitsFor md ops z j || match ops[j]? with
  |some oj=>oj.after.any (fun e=>Region.binds md e&&e.on==z) || o.apart ops oj
  |none=>true
def ke (md:Region.Mode) (ops:Array Oper) (zi ci:List Nat) (t0:Nat) (ts:List Nat):Bool:=
 Region.noSelect ops&&gZ ops&&decide ci.Nodup&&decide (ci.Pairwise (· < ·))&&((t0::ts).all fun t=>decide (t<ops.size))&&decide (ci.length+(ts.length+1)=ops.size)&&fQ md ops t0 (ci.filter fun i=> !zi.contains i)&&(zi.all fun i=>uK md ops i)&&cT md ops (t0::ts)&&
 (ci.all fun i=> !(t0::ts).contains i)&&((List.range ops.size).all fun j=>ci.contains j || (t0::ts).contains j)&&
 (ci.all fun i=>match ops[i]? with
  |some o=>(o.after.all fun e=> !Region.binds md e || (decide (e.on<i)&&ci.contains e.on))&&
    ((List.range ops.size).all fun j=>(t0::ts).contains j || Region.waitsFor md ops i j || !((aM ops j).any fun d=>(o.looksAt ops).contains d))
  |none=>false)&&
 bJ md ops (t0::ts) (bw ops ci ops.size)
def sQ (P:Program) (md:Region.Mode) (ops:Array Oper) (R:Nat→Value→World→Prop) (w0:World) (Q:Exit→Act→World→Prop) (zi:List Nat) (i:Nat) (vals:Nat→Value) (a:Act):Prop:=
 ∀w',Below w0.heap.size w0 w'→(∀j,Region.waitsFor md ops i j=true→R j (vals j) w')→
  if zi.contains i=true then ∃o v,ops[i]? =some o∧Yields P ops o v a∧∀w'',R i v w'' else
  ∃o d,ops[i]? =some o∧o.dst=some d∧d<a.tmps.size∧if Region.wanted o (yielded ops a.tmps)=true then o.wp P a w' (fun x w''=>∃v,x=a.put o.dst v∧Below w'.heap.size w' w''∧R i v w'') (NoPanic Q)else R i undef w'
theorem js {zi ci:List Nat} {t0:Nat} {ts:List Nat} (hB:ke md ops zi ci t0 ts=true) {R:Nat→Value→World→Prop} {a0:Act} {w0:World}
  (hst:∀i v w w',Below w.heap.size w w'→R i v w→R i v w')
  (hob:∀i∈ci,∀vals,sQ P md ops R w0 Q zi i vals (frm ops a0 vals (bw ops ci i)))
  (hfin:∀vals w',Below w0.heap.size w0 w'→(∀i∈ci,R i (vals i) w')→wpList P ops (NoPanic Q) (bu ops (t0::ts)) (frm ops a0 vals (bw ops ci ops.size)) w'):
  ∀(f:Nat) (listed:Array Bool) (vals:Nat→Value) (w:World),Inv md ops (t0::ts) listed→(ci.filter fun i=> !listed.getD i false).length=f→Below w0.heap.size w0 w→
   (∀j,listed.getD j false=true→R j (vals j) w)→wpAny P md ops (NoPanic Q) (f+(ts.length+1)) listed (frm ops a0 vals listed) w:=by
 simp only[ke,qaF,qfV]at hB
 obtain⟨⟨⟨⟨⟨⟨⟨⟨⟨⟨⟨⟨hsel,hd⟩,hnd⟩,_⟩,htl⟩,hsz⟩,hs⟩,hzf⟩,hc⟩,hdis⟩,hcov⟩,hop⟩,hfo⟩:=hB
 have hit:∀i∈ci,i ∉ t0::ts:=fun i hi=>by have:=alsi.1 hdis i hi;simpa using this
 have hcv:∀j,j<ops.size→j∈ci∨j∈t0::ts:=fun j hj=>by have:=alsi.1 hcov j (ultv.2 hj);simpa using this
 have hops:∀i∈ci,∃o,ops[i]? =some o∧(∀e∈o.after,Region.binds md e=true→e.on<i∧e.on∈ci)∧(∀j,j<ops.size→j∈t0::ts∨Region.waitsFor md ops i j=true∨∀d,aM ops j=some d→d ∉ o.looksAt ops):=fun i hi=>by
  have h:=alsi.1 hop i hi
  cases ho:ops[i]? with
  |none=>rw[ho]at h;cases h
  |some o=>
   rw[ho]at h
   simp only[qaF]at h
   obtain⟨he,hl⟩:=h
   refine⟨o,rfl,fun e hem hb=> ?_,fun j hj=> ?_⟩
   ·have:=Array.all_eq_true'.1 he e hem
    simpa [hb]using this
   ·have:=alsi.1 hl j (ultv.2 hj)
    simp only[qgf]at this
    rcases this with(h|h)|h
    ·exact .inl (by simpa using h)
    ·exact .inr (.inl h)
    ·refine .inr (.inr fun d hd hm=> ?_)
     rw[hd]at h
     simp[hm]at h
 intro f
 induction f with
 |zero=>
  intro listed vals w inv hcnt hb hR
  have hall:∀i∈ci,listed.getD i false=true:=fun i hi=>by
   have:=List.filter_eq_nil_iff.1 (alto.1 hcnt) i hi
   simpa using this
  have hL:listed=bw ops ci ops.size:=by
   have hsz2:(bw ops ci ops.size).size=ops.size:=by simp[bw]
   apply Array.ext (by rw[inv.size,hsz2])
   intro j h1 h2
   have e1:listed[j]=listed.getD j false:=by simp[Array.getD,h1]
   have e2:(bw ops ci ops.size)[j]=(bw ops ci ops.size).getD j false:=by simp[Array.getD,h2]
   have hj:j<ops.size:=by rw[←inv.size];exact h1
   rw[e1,e2,bg]
   rcases hcv j hj with h|h
   ·rw[hall j h];simp[hj,h]
   ·rw[getD_both (inv.tail j h hj)]
    have:j ∉ ci:=fun hh=>hit j hh h
    simp[this]
  rw[qfW]
  subst hL
  exact dg (t0::ts) _ _ w hfo (hfin vals w hb fun i hi=>hR i (hall i hi))
 |succ f ih=>
  intro listed vals w inv hcnt hb hR
  have hlt:∀i∈ci,i<listed.size:=fun i hi=>by
   obtain⟨o,ho,_⟩:=hops i hi
   rw[inv.size];exact(alsl.1 ho).1
  have hun:∃i∈ci,listed.getD i true=false:=by
   cases hfl:(ci.filter fun i=> !listed.getD i false)with
   |nil=>rw[hfl]at hcnt;cases hcnt
   |cons i l=>
    have hi:i∈ci.filter fun i=> !listed.getD i false:=by rw[hfl];simp
    obtain⟨h1,h2⟩:=alsm.1 hi
    exact⟨i,h1,getD_in (hlt i h1) (by simpa using h2)⟩
  have hex:∀n i,i≤n→i∈ci→listed.getD i true=false→∃k,k∈Region.ready md ops listed:=by
   intro n
   induction n with
   |zero=>
    intro i hin hi hu
    obtain⟨o,ho,he,_⟩:=hops i hi
    exact⟨i,mem_ready.2 ⟨hu,o,ho,fun e hem hb=>by have:=(he e hem hb).1;omega⟩⟩
   |succ n ihn=>
    intro i hin hi hu
    obtain⟨o,ho,he,_⟩:=hops i hi
    by_cases hall:∀e∈o.after,Region.binds md e=true→listed.getD e.on false=true
    ·exact⟨i,mem_ready.2 ⟨hu,o,ho,hall⟩⟩
    ·simp only[Classical.not_forall]at hall
     obtain⟨e,hem,hb,hn⟩:=hall
     obtain⟨h1,h2⟩:=he e hem hb
     exact ihn e.on (by omega) h2 (getD_in (hlt _ h2) (by simpa using hn))
  obtain⟨i1,hi1,hu1⟩:=hun
  obtain⟨k,hk⟩:=hex i1 i1 (qaA _) hi1 hu1
  rw[show f+1+(ts.length+1)=(f+(ts.length+1))+1 by omega]
  have hdep0:∀i o,ops[i]? =some o→i∈Region.ready md ops listed→i∈ci→∀j,Region.waitsFor md ops i j=true→listed.getD j false=true∧j<i∧j∈ci:=fun i o ho hi hic j hj=>by
   obtain⟨hu,o1,ho1,hall⟩:=mem_ready.1 hi
   obtain⟨o',ho',he,_⟩:=hops i hic
   obtain rfl:o1=o':=qgb (ho1.symm.trans ho')
   obtain⟨oj,hoj,e,hem,hb',hon⟩:=Region.waitsFor_spec hj
   obtain rfl:o1=oj:=qgb (ho1.symm.trans hoj)
   subst hon
   exact⟨hall e hem hb',he e hem hb'⟩
  by_cases hz:∃z∈zi,z∈ci∧z∈Region.ready md ops listed
  ·obtain⟨z,hzi,hzc,hzr⟩:=hz
   obtain⟨hu,o,ho,hall⟩:=mem_ready.1 hzr
   obtain⟨o',ho',he,hlk⟩:=hops z hzc
   obtain rfl:o=o':=qgb (ho.symm.trans ho')
   have hdep:=hdep0 z o ho hzr hzc
   have htt:∀t∈t0::ts,listed.getD t true=false:=fun t ht=>inv.tail t ht (by have:=alsi.1 htl t ht;simpa using this)
   have hob':=hob z hzc vals w hb (fun j hj=>hR j (hdep j hj).1)
   rw[if_pos (by simpa using hzi)]at hob'
   obtain⟨o2,v,ho2,hy,hRv⟩:=hob'
   obtain rfl:o=o2:=qgb (ho.symm.trans ho2)
   have hag:∀d∈o.looksAt ops,∀j,aM ops j=some d→listed.getD j false=(bw ops ci z).getD j false:=(fun d hd j hj=>by
    have hjs:j<ops.size:=by
     rcases Nat.lt_or_ge j ops.size with h|h
     ·exact h
     ·unfold aM at hj;rw[Array.getElem?_eq_none h]at hj;cases hj
    rw[bg]
    rcases hlk j hjs with h|h|h
    ·rw[getD_both (htt j h)]
     have:j ∉ ci:=fun hh=>hit j hh h
     simp[this]
    ·obtain⟨h1,h2,h3⟩:=hdep j h
     rw[h1];simp[hjs,h2,h3]
    ·exact absurd hd (h d hj))
   have hy':Yields P ops o v (frm ops a0 vals listed):=by
    unfold Yields at hy ⊢
    rw[gA o (fun cs b=>Region.noSelect_spec hsel z o cs b ho) hag,eC (a0:=a0) (vals:=vals) o hag]
    exact hy
   have hfree:∀j oj,ops[j]? =some oj→j≠z→listed.getD j true=false→(∀e∈oj.after,Region.binds md e=true→e.on≠z)→o.apart ops oj=true:=fun j oj hj hne hun hno=>by
    have h1:=alsi.1 hzf z hzi
    unfold uK at h1
    rw[ho]at h1
    have h2:=alsi.1 h1 j (ultv.2 (alsl.1 hj).1)
    rw[hj]at h2
    simp only[qgf,beq_iff_eq,hne,false_or]at h2
    rcases h2 with h2|h2|h2
    ·have:=(hdep j h2).1
     rw[getD_both hun]at this;cases this
    ·obtain⟨e,hem,h3⟩:=Array.any_eq_true'.1 h2
     simp only[qaF,beq_iff_eq]at h3
     exact absurd h3.2 (hno e hem h3.1)
    ·exact h2
   have hdo:aM ops z=o.dst:=by simp[aM,ho]
   have hnt:z ∉ t0::ts:=hit z hzc
   refine wpAny_first ho (Region.noSelect_spec hsel) (fun c a w h=>(h:False).elim) _ listed _ w hfree hzr hy' ?_
   rw[←hdo,dU hd (hlt z hzc)]
   refine ih _ _ w (inv.set hzr hnt) ?_ hb (fun j hj=> ?_)
   ·have:=fy hnd hzc hu
    omega
   ·by_cases hji:j=z
    ·subst hji;simpa [upd]using hRv w
    ·rw[getD_set_ne false (fun h=>hji h.symm)]at hj
     simp only[upd,if_neg hji]
     exact hR j hj
  have hi3:∃i∈ci.filter (fun i=> !zi.contains i),listed.getD i true=false:=by
   have key:∀n i,i≤n→i∈ci→listed.getD i true=false→∃i∈ci.filter (fun i=> !zi.contains i),listed.getD i true=false:=by
    intro n
    induction n with
    |zero=>
     intro i hin hi hu
     by_cases hzi:i∈zi
     ·obtain⟨o,ho,he,_⟩:=hops i hi
      exact absurd ⟨i,hzi,hi,mem_ready.2 ⟨hu,o,ho,fun e hem hb=>by have:=(he e hem hb).1;omega⟩⟩ hz
     ·exact⟨i,alsm.2 ⟨hi,by simpa using hzi⟩,hu⟩
    |succ n ihn=>
     intro i hin hi hu
     by_cases hzi:i∈zi
     ·obtain⟨o,ho,he,_⟩:=hops i hi
      by_cases hall:∀e∈o.after,Region.binds md e=true→listed.getD e.on false=true
      ·exact absurd ⟨i,hzi,hi,mem_ready.2 ⟨hu,o,ho,hall⟩⟩ hz
      ·simp only[Classical.not_forall]at hall
       obtain⟨e,hem,hb,hn⟩:=hall
       obtain⟨h1,h2⟩:=he e hem hb
       exact ihn e.on (by omega) h2 (getD_in (hlt _ h2) (by simpa using hn))
     ·exact⟨i,alsm.2 ⟨hi,by simpa using hzi⟩,hu⟩
   exact key i1 i1 (qaA _) hi1 hu1
  refine⟨fun h0=>(by rw[h0]at hk;cases hk),fun i hi=> ?_⟩
  have htt:∀t∈t0::ts,listed.getD t true=false:=fun t ht=>inv.tail t ht (by have:=alsi.1 htl t ht;simpa using this)
  have hnt:i ∉ t0::ts:=fun h=>by
   rcases alsk.1 h with rfl|h
   ·exact dm inv _ hs hi3 hi
   ·exact Bd htt t0 ts (fun _ h=>h) hc i h hi
  obtain⟨hu,o,ho,hall⟩:=mem_ready.1 hi
  have hic:i∈ci:=by
   rcases hcv i (alsl.1 ho).1 with h|h
   ·exact h
   ·exact absurd h hnt
  obtain⟨o',ho',he,hlk⟩:=hops i hic
  obtain rfl:o=o':=qgb (ho.symm.trans ho')
  have hdep:∀j,Region.waitsFor md ops i j=true→listed.getD j false=true∧j<i∧j∈ci:=fun j hj=>by
   obtain⟨oj,hoj,e,hem,hb',hon⟩:=Region.waitsFor_spec hj
   obtain rfl:o=oj:=qgb (ho.symm.trans hoj)
   subst hon
   exact⟨hall e hem hb',he e hem hb'⟩
  have hob':=hob i hic vals w hb (fun j hj=>hR j (hdep j hj).1)
  have hiz:¬zi.contains i=true:=fun h=>hz ⟨i,by simpa using h,hic,hi⟩
  rw[if_neg hiz]at hob'
  obtain⟨o2,d,ho2,hdst,hds,hwp⟩:=hob'
  obtain rfl:o=o2:=qgb (ho.symm.trans ho2)
  have hag:∀d∈o.looksAt ops,∀j,aM ops j=some d→listed.getD j false=(bw ops ci i).getD j false:=(fun d hd j hj=>by
   have hjs:j<ops.size:=by
    rcases Nat.lt_or_ge j ops.size with h|h
    ·exact h
    ·unfold aM at hj;rw[Array.getElem?_eq_none h]at hj;cases hj
   rw[bg]
   rcases hlk j hjs with h|h|h
   ·rw[getD_both (htt j h)]
    have:j ∉ ci:=fun hh=>hit j hh h
    simp[this]
   ·obtain⟨h1,h2,h3⟩:=hdep j h
    rw[h1];simp[hjs,h2,h3]
   ·exact absurd hd (h d hj))
  have hex2:execOp (frm ops a0 vals listed).eval o=execOp (frm ops a0 vals (bw ops ci i)).eval o:=gA o (fun cs b=>Region.noSelect_spec hsel i o cs b ho) hag
  have hwn:=eC (a0:=a0) (vals:=vals) o hag
  have hdo:aM ops i=o.dst:=by simp[aM,ho]
  have key:∀v w'',Below w.heap.size w w''→R i v w''→wpAny P md ops (NoPanic Q) (f+(ts.length+1)) (listed.setIfInBounds i true) ((frm ops a0 vals listed).put o.dst v) w'':=fun v w'' hbw hRv=>by
   rw[←hdo,dU hd (hlt i hic)]
   refine ih _ _ w'' (inv.set hi hnt) ?_ (fB hb hbw) (fun j hj=> ?_)
   ·have:=fy hnd hic hu
    omega
   ·by_cases hji:j=i
    ·subst hji;simpa [upd]using hRv
    ·rw[getD_set_ne false (fun h=>hji h.symm)]at hj
     simp only[upd,if_neg hji]
     exact hst j _ _ _ hbw (hR j hj)
  unfold wpOp
  simp only[ho]
  rw[hwn]
  split
  ·rename_i hw
   rw[if_pos hw]at hwp
   refine .inl (Oper.wp_mono ?_ (iB hex2 hdst hds hwp))
   rintro x w'' ⟨v,rfl,hbw,hRv⟩
   exact key v w'' hbw hRv
  ·rename_i hw
   rw[if_neg hw]at hwp
   exact key undef w (brf) hwp
section
variable {R:Nat→Value→World→Prop} {w0:World} {zi:List Nat} {F:(Nat→Value)→Act→Prop}
end
end
end
section
open Go.RowKit
theorem ex3 {α:Type} {P Q R:α→Prop} (c:α) (p:P c) (q:Q c) (r:R c):∃c,P c∧Q c∧R c:=⟨c,p,q,r⟩
def SP:={r:Value→World→Prop // dR r}
def sv (c:Value):SP:=⟨IsV c,TC c⟩
def xm (l:List SP) (i:Nat) (v:Value) (w:World):Prop:=(l.getD i (sv undef)).1 v w
section
variable {P:Program} {ops:Array Oper} {md:Region.Mode} {Q:Exit→Act→World→Prop}
def wpK (P:Program) (md:Region.Mode) (ops:Array Oper) (R:Nat→Value→World→Prop) (w0:World) (Q:Exit→Act→World→Prop) (zi:List Nat) (F:(Nat→Value)→Act→Prop):List Nat→(Nat→Value)→Act→Prop
 | [],vals,a=>F vals a
 |i::l,vals,a=>sQ P md ops R w0 Q zi i vals a∧((∃c,(∀v w,R i v w→v=c)∧wpK P md ops R w0 Q zi F l (upd vals i c) (a.put (aM ops i) c))∨∀v,wpK P md ops R w0 Q zi F l (upd vals i v) (a.put (aM ops i) v))
theorem Bj {a0:Act} {vals vals':Nat→Value} {L:Array Bool} {d:Nat} (h:∀j,aM ops j=some d→L.getD j false=true→vals j=vals' j):(frm ops a0 vals L).tmps[d]? =(frm ops a0 vals' L).tmps[d]? :=by
 unfold frm
 simp only[Array.getElem?_mapIdx]
 cases a0.tmps[d]? with
 |none=>rfl
 |some x=>
  simp only[Option.map_some]
  cases ho:yb ops L d with
  |none=>rfl
  |some j=>obtain⟨h1,h2⟩:=gr ho;simp only;rw[h j h2 h1]
theorem Bk (o:Oper) (hs:∀cs b,o.op≠ .select cs b) {a0:Act} {vals vals':Nat→Value} {L:Array Bool}
  (h:∀d∈o.looksAt ops,∀j,aM ops j=some d→L.getD j false=true→vals j=vals' j):execOp (frm ops a0 vals L).eval o=execOp (frm ops a0 vals' L).eval o:=by
 refine execOp_congr o hs fun x hx=> ?_
 cases x with
 |tmp d=>
  have hd:d∈o.looksAt ops:=List.mem_append_left _ (List.mem_filterMap.2 ⟨.tmp d,by simpa using hx,rfl⟩)
  have:=Bj (ops:=ops) (a0:=a0) (h d hd)
  simp only[Act.eval,Array.getD_eq_getD_getElem?,this]
 |_=>rfl
theorem kR (o:Oper) {a0:Act} {vals vals':Nat→Value} {L:Array Bool} (h:∀d∈o.looksAt ops,∀j,aM ops j=some d→L.getD j false=true→vals j=vals' j):
  Region.wanted o (yielded ops (frm ops a0 vals L).tmps)=Region.wanted o (yielded ops (frm ops a0 vals' L).tmps):=by
 unfold Region.wanted
 cases hg:o.guard with
 |none=>rfl
 |some gw=>
  obtain⟨g,want⟩:=gw
  have:yielded ops (frm ops a0 vals L).tmps g=yielded ops (frm ops a0 vals' L).tmps g:=by
   unfold yielded
   cases ho:(ops[g]?).bind (·.dst)with
   |none=>rfl
   |some d=>
    have hd:d∈o.looksAt ops:=List.mem_append_right _ (by simp[hg,ho])
    have:=Bj (ops:=ops) (a0:=a0) (h d hd)
    simp[this]
  simp only[this]
theorem uM {a0:Act} {vals:Nat→Value} {L:Array Bool}:(frm ops a0 vals L).tmps.size=a0.tmps.size:=by simp[frm]
theorem gK {zi ci:List Nat} {R:Nat→Value→World→Prop} {a0:Act} {w0:World} {F:(Nat→Value)→Act→Prop} (hsel:Region.noSelect ops=true) (hd:gZ ops=true) (hp:ci.Pairwise (· < ·)) (hlt:∀i∈ci,i<ops.size)
  (hdep:∀i∈ci,∀j,Region.waitsFor md ops i j=true→j<i∧j∈ci)
  (hlk:∀i∈ci,∀o,ops[i]? =some o→∀j∈ci,Region.waitsFor md ops i j=true∨∀d,aM ops j=some d→d ∉ o.looksAt ops):
  ∀(l pre:List Nat) (vals0:Nat→Value),ci=pre++l→wpK P md ops R w0 Q zi F l vals0 (frm ops a0 vals0 (bw ops pre ops.size))→
   (∀i∈l,∀vals:Nat→Value,(∀j∈pre,vals j=vals0 j∨∀w,¬R j (vals j) w)→sQ P md ops R w0 Q zi i vals (frm ops a0 vals (bw ops ci i)))∧
   (∀vals:Nat→Value,(∀j∈pre,vals j=vals0 j∨∀w,¬R j (vals j) w)→(∀j∈ci,∃w,R j (vals j) w)→∃vals1:Nat→Value,(∀j∈ci,vals j=vals1 j)∧F vals1 (frm ops a0 vals1 (bw ops ci ops.size)))
 | [],pre,vals0,he,h=>⟨(fun i hi=>by cases hi),fun vals hv hR=>⟨vals0,fun j hj=>by
   rcases hv j (by simpa [he]using hj)with h1|h1
   ·exact h1
   ·obtain⟨w,hw⟩:=hR j hj;exact absurd hw (h1 w),by rw[he,qgd];exact h⟩⟩
 |i::l,pre,vals0,he,h=>by
  have hpre:∀j,(bw ops pre ops.size).getD j false=true→j∈pre:=fun j hj=>by
   rw[bg]at hj;simp at hj;exact hj.2
  have hu:bw ops ci i=bw ops pre ops.size:=by rw[he];exact jr (he▸hp)
  have hici:i∈ci:=by rw[he];simp
  have rest:∀vals:Nat→Value,(∀j∈pre,vals j=vals0 j∨∀w,¬R j (vals j) w)→∃v,wpK P md ops R w0 Q zi F l (upd vals0 i v) (frm ops a0 (upd vals0 i v) (bw ops (pre++[i]) ops.size))∧∀j∈pre++[i],vals j=upd vals0 i v j∨∀w,¬R j (vals j) w:=fun vals hv=>by
   have old:∀v,∀j∈pre++[i],j≠i→vals j=upd vals0 i v j∨∀w,¬R j (vals j) w:=fun v j hj hji=>by
    simp only[upd,if_neg hji]
    exact hv j (by simpa [hji]using hj)
   have hf:∀v,(frm ops a0 vals0 (bw ops pre ops.size)).put (aM ops i) v=frm ops a0 (upd vals0 i v) (bw ops (pre++[i]) ops.size):=fun v=>by
    rw[dU hd (by rw[eD];exact hlt i hici),jq (hlt i hici)]
   rcases h.2 with⟨c,hc,hk⟩|hk
   ·refine⟨c,by rw[←hf];exact hk,fun j hj=> ?_⟩
    by_cases hji:j=i
    ·subst hji
     by_cases hvc:vals j=c
     ·left;simpa [upd]using hvc
     ·right;exact fun w hw=>hvc (hc _ _ hw)
    ·exact old c j hj hji
   ·refine⟨vals i,by rw[←hf];exact hk _,fun j hj=> ?_⟩
    by_cases hji:j=i
    ·subst hji;left;simp[upd]
    ·exact old _ j hj hji
  refine⟨fun k hk vals hv=> ?_,fun vals hv hR=> ?_⟩
  ·rcases alsk.1 hk with rfl|hk
   ·intro w' hb hR
    have hin:∀j,Region.waitsFor md ops k j=true→j∈pre:=fun j hj=>by
     obtain⟨h1,h2⟩:=hdep k hici j hj
     have h3:(bw ops ci k).getD j false=true:=by rw[bg];simp[hlt j h2,h1,h2]
     rw[hu]at h3
     exact hpre j h3
    have heq:∀j,Region.waitsFor md ops k j=true→vals j=vals0 j:=fun j hj=>by
     rcases hv j (hin j hj)with h1|h1
     ·exact h1
     ·exact absurd (hR j hj) (h1 w')
    have h1:=h.1 w' hb (fun j hj=>by rw[←heq j hj];exact hR j hj)
    have hag:∀o,ops[k]? =some o→∀d∈o.looksAt ops,∀j,aM ops j=some d→(bw ops pre ops.size).getD j false=true→vals j=vals0 j:=fun o ho d hdl j hj hl=>by
     rcases hlk k hici o ho j (by rw[he];exact List.mem_append_left _ (hpre j hl))with h1|h1
     ·exact heq j h1
     ·exact absurd hdl (h1 d hj)
    rw[hu]
    split
    ·rename_i hz
     rw[if_pos hz]at h1
     obtain⟨o,v,ho,hy,hv⟩:=h1
     refine⟨o,v,ho, ?_,hv⟩
     unfold Yields at hy ⊢
     rw[kR o (hag o ho),Bk o (fun cs b=>Region.noSelect_spec hsel k o cs b ho) (hag o ho)]
     exact hy
    ·rename_i hz
     rw[if_neg hz]at h1
     obtain⟨o,d,ho,hdst,hds,hwp⟩:=h1
     refine⟨o,d,ho,hdst,by rw[uM]at hds ⊢;exact hds, ?_⟩
     rw[kR o (hag o ho)]
     split
     ·rename_i hw
      rw[if_pos hw]at hwp
      exact iB (Bk o (fun cs b=>Region.noSelect_spec hsel k o cs b ho) (hag o ho)) hdst hds hwp
     ·rename_i hw
      rw[if_neg hw]at hwp
      exact hwp
   ·obtain⟨v,h1,h2⟩:=rest vals hv
    exact(gK hsel hd hp hlt hdep hlk l (pre++[i]) (upd vals0 i v) (by rw[he];simp) h1).1 k hk vals h2
  ·obtain⟨v,h1,h2⟩:=rest vals hv
   exact(gK hsel hd hp hlt hdep hlk l (pre++[i]) (upd vals0 i v) (by rw[he];simp) h1).2 vals h2 hR
theorem aj {id:Nat} {a:Act} {w:World} {l:List Oper} (zi ci:List Nat) (t0:Nat) (ts:List Nat) (R:List SP) (hm:P.follows .mixedOrders=true) (hB:ke .any l.toArray zi ci t0 ts=true)
  (h:wpK P .any l.toArray (xm R) w Q zi (fun vals a'=>∀u:Ext w,(∀i∈ci,xm R i (vals i) u.val)→wpList P l.toArray (NoPanic Q) (bu l.toArray (t0::ts)) a' u.val) ci (fun _=>undef) a):
  (Code.region id l.toArray true).wp P Q a w:=by
 refine wp_region_noPanic (wp_region_any hm ?_)
 have hst:∀i v w w',Below w.heap.size w w'→xm R i v w→xm R i v w':=fun i v w w' hb h=>(R.getD i (sv undef)).2 v w w' hb h
 have hB':=hB
 simp only[ke,qaF,qfV]at hB
 obtain⟨⟨⟨⟨⟨⟨⟨⟨⟨⟨⟨⟨hsel,hd⟩,hnd⟩,hpw⟩,htl⟩,hsz⟩,hs⟩,_⟩,hc⟩,hdis⟩,hcov⟩,hop⟩,hfo⟩:=hB
 have hlt:∀i∈ci,i<l.toArray.size:=fun i hi=>by
  have h:=alsi.1 hop i hi
  rcases Nat.lt_or_ge i l.toArray.size with h'|h'
  ·exact h'
  ·rw[Array.getElem?_eq_none h']at h;cases h
 have hdep:∀i∈ci,∀j,Region.waitsFor .any l.toArray i j=true→j<i∧j∈ci:=fun i hi j hj=>by
  have h:=alsi.1 hop i hi
  obtain⟨o,ho,e,hem,hb,rfl⟩:=Region.waitsFor_spec hj
  rw[ho]at h
  simp only[qaF]at h
  have:=Array.all_eq_true'.1 h.1 e hem
  simpa [hb]using this
 have hlk:∀i∈ci,∀o,l.toArray[i]? =some o→∀j∈ci,Region.waitsFor .any l.toArray i j=true∨∀d,aM l.toArray j=some d→d ∉ o.looksAt l.toArray:=fun i hi o ho j hj=>by
  have h:=alsi.1 hop i hi
  rw[ho]at h
  simp only[qaF]at h
  have h2:=alsi.1 h.2 j (ultv.2 (hlt j hj))
  have hnt:j ∉ t0::ts:=by have:=alsi.1 hdis j hj;simpa using this
  simp only[qgf]at h2
  rcases h2 with(h3|h3)|h3
  ·exact absurd (by simpa using h3) hnt
  ·exact .inl h3
  ·refine .inr fun d hd hm=> ?_
   rw[hd]at h3
   simp[hm]at h3
 have hnil:∀j,(bw l.toArray [] l.toArray.size).getD j false=false:=fun j=>by rw[bg];simp
 have hobs:=gK (P:=P) (md:= .any) (Q:=Q) (zi:=zi) (R:=xm R) (a0:=a) (w0:=w) hsel hd hpw hlt hdep hlk ci [] (fun _=>undef) rfl (by rw[dD hnil];exact h)
 have hrep:∀j,(Array.replicate l.toArray.size false).getD j false=false:=fun j=>getD_replicate_false _ _
 have:=js (P:=P) (Q:=Q) hB' (a0:=a) (w0:=w) hst (fun i hi vals=>hobs.1 i hi vals (by simp)) (fun vals w' hb hR=>by
   obtain⟨vals1,h1,h2⟩:=hobs.2 vals (by simp) (fun j hj=>⟨w',hR j hj⟩)
   rw[dO (vals:=vals) (vals':=vals1) (fun j hj=>h1 j (by rw[bg]at hj;simp at hj;exact hj.2))]
   exact h2 ⟨w',hb⟩ (fun i hi=>by rw[←h1 i hi];exact hR i hi)) ci.length (Array.replicate l.toArray.size false) (fun _=>undef) {w with drawn:=w.drawn+1}
  ⟨fun j oj _ hl=>(by rw[hrep]at hl;cases hl),fun t _ ht=>getD_in (by simpa using ht) (getD_replicate_false _ _),by simp⟩
  (by rw[List.filter_eq_self.2 (fun i _=>by rw[hrep];rfl)]) ⟨rfl,rfl,rfl,qaA _,fun _ _=>rfl⟩ (fun j hj=>by rw[hrep]at hj;cases hj)
 rw[dD hrep,hsz]at this
 exact this
variable {R:Nat→Value→World→Prop} {w0:World} {zi:List Nat} {F:(Nat→Value)→Act→Prop} {i:Nat} {l:List Nat} {vals:Nat→Value} {a:Act} {o:Oper} {d:Nat}
theorem aI (h:F vals a):wpK P md ops R w0 Q zi F [] vals a:=h
theorem yw (ho:ops[i]? =some o) (hd:o.dst=some d) (hlt:d<a.tmps.size) (hg:o.guard=none) (hz:zi.contains i=false)
  (h1:∀w',Below w0.heap.size w0 w'→(∀j,Region.waitsFor md ops i j=true→R j (vals j) w')→o.wp P a w' (fun x w''=>∃v,x=a.put o.dst v∧Below w'.heap.size w' w''∧R i v w'') (NoPanic Q)):sQ P md ops R w0 Q zi i vals a:=fun w' hb hR=>
 by rw[if_neg (by rw[hz];simp)];exact⟨o,d,ho,hd,hlt,by rw[if_pos (by unfold Region.wanted;rw[hg])];exact h1 w' hb hR⟩
theorem wkv (ho:ops[i]? =some o) (hd:o.dst=some d) (hlt:d<a.tmps.size) (hg:o.guard=none) (hz:zi.contains i=false)
  (h:∃c,(∀(u:Ext w0) (K:Act→World→Prop),(∀w'',Below u.val.heap.size u.val w''→K (a.put (some d) c) w'')→o.wp P a u.val K (NoPanic Q))∧R i=IsV c∧wpK P md ops R w0 Q zi F l (upd vals i c) (a.put (some d) c)):wpK P md ops R w0 Q zi F (i::l) vals a:=by
 obtain⟨c,h1,h2,h3⟩:=h
 refine⟨yw ho hd hlt hg hz fun w' hb _=>h1 ⟨w',hb⟩ _ fun w'' hb'=>⟨c,by rw[hd],hb',by rw[h2];rfl⟩, .inl ⟨c,fun v w hv=>by rw[h2]at hv;exact hv, ?_⟩⟩
 have:aM ops i=some d:=by simp[aM,ho,hd]
 rw[this]
 exact h3
theorem wkV (h:∃c,(∀(u:Ext w0) (K:Act→World→Prop),(∀w'',Below u.val.heap.size u.val w''→K (a.put (some d) c) w'')→o.wp P a u.val K (NoPanic Q))∧R i=IsV c∧wpK P md ops R w0 Q zi F l (upd vals i c) (a.put (some d) c))
  (ho:ops[i]? =some o:=by rfl) (hd:o.dst=some d:=by rfl) (hlt:d<a.tmps.size:=by simp) (hg:o.guard=none:=by rfl) (hz:zi.contains i=false:=by rfl):wpK P md ops R w0 Q zi F (i::l) vals a:=wkv ho hd hlt hg hz h
theorem wkQ {c:Value} (h3:wpK P md ops R w0 Q zi F l (upd vals i c) (a.put (some d) c)) (ho:ops[i]? =some o:=by rfl) (hd:o.dst=some d:=by rfl) (hlt:d<a.tmps.size:=by simp) (hg:o.guard=none:=by rfl) (hz:zi.contains i=false:=by rfl)
  (h1:∀(u:Ext w0) (K:Act→World→Prop),(∀w'',Below u.val.heap.size u.val w''→K (a.put (some d) c) w'')→o.wp P a u.val K (NoPanic Q):=by intro u K hK;go_simp;exact hK _ brf) (h2:R i=IsV c:=by rfl):wpK P md ops R w0 Q zi F (i::l) vals a:=wkv ho hd hlt hg hz ⟨c,h1,h2,h3⟩
theorem wku (ho:ops[i]? =some o) (hd:o.dst=some d) (hlt:d<a.tmps.size) (hg:o.guard=none) (hz:zi.contains i=false)
  (h1:∀u:Ext w0,(∀j,Region.waitsFor md ops i j=true→R j (vals j) u.val)→
   ∀K:Act→World→Prop,(∀v w'',Below u.val.heap.size u.val w''→R i v w''→K (a.put (some d) v) w'')→o.wp P a u.val K (NoPanic Q))
  (h2:∀v,wpK P md ops R w0 Q zi F l (upd vals i v) (a.put (some d) v)):wpK P md ops R w0 Q zi F (i::l) vals a:=by
 refine⟨yw ho hd hlt hg hz fun w' hb hR=>h1 ⟨w',hb⟩ hR _ fun v w'' hb' hr=>⟨v,by rw[hd],hb',hr⟩, .inr fun v=> ?_⟩
 have:aM ops i=some d:=by simp[aM,ho,hd]
 rw[this]
 exact h2 v
theorem wkU (h1:∀u:Ext w0,(∀j,Region.waitsFor md ops i j=true→R j (vals j) u.val)→
   ∀K:Act→World→Prop,(∀v w'',Below u.val.heap.size u.val w''→R i v w''→K (a.put (some d) v) w'')→o.wp P a u.val K (NoPanic Q))
  (h2:∀v,wpK P md ops R w0 Q zi F l (upd vals i v) (a.put (some d) v)) (ho:ops[i]? =some o:=by rfl) (hd:o.dst=some d:=by rfl) (hlt:d<a.tmps.size:=by simp) (hg:o.guard=none:=by rfl) (hz:zi.contains i=false:=by rfl):wpK P md ops R w0 Q zi F (i::l) vals a:=wku ho hd hlt hg hz h1 h2
theorem wkz (ho:ops[i]? =some o) (hd:o.dst=some d) (hg:o.guard=none) (hz:zi.contains i=true)
  (h:∃c,(∀w,(execOp a.eval o).run P w= .ok (.value c) w)∧R i=IsV c∧wpK P md ops R w0 Q zi F l (upd vals i c) (a.put (some d) c)):wpK P md ops R w0 Q zi F (i::l) vals a:=by
 obtain⟨c,h1,h2,h3⟩:=h
 refine⟨fun w' hb hR=> ?_, .inl ⟨c,fun v w hv=>by rw[h2]at hv;exact hv, ?_⟩⟩
 ·rw[if_pos hz]
  exact⟨o,c,ho, .inl ⟨by unfold Region.wanted;rw[hg],h1⟩,fun w''=>by rw[h2];rfl⟩
 ·have:aM ops i=some d:=by simp[aM,ho,hd]
  rw[this]
  exact h3
end
section
variable {P:Program} {ops:Array Oper} {md:Region.Mode} {Q:Exit→Act→World→Prop} {R:Nat→Value→World→Prop} {w0:World} {F:(Nat→Value)→Act→Prop} {zi:List Nat} {i:Nat} {l:List Nat} {vals:Nat→Value} {a:Act} {o:Oper} {d:Nat}
theorem MM (ho:ops[i]? =some o) (hd:o.dst=some d) (hlt:d<a.tmps.size) (hg:o.guard=none) (hz:zi.contains i=false)
  (h:∃c,(∀u:Ext w0,(∀j,Region.waitsFor md ops i j=true→R j (vals j) u.val)→∀K:Act→World→Prop,(∀w'',Below u.val.heap.size u.val w''→K (a.put (some d) c) w'')→o.wp P a u.val K (NoPanic Q))∧R i=IsV c∧wpK P md ops R w0 Q zi F l (upd vals i c) (a.put (some d) c)):wpK P md ops R w0 Q zi F (i::l) vals a:=by
 obtain⟨c,h1,h2,h3⟩:=h
 have e:aM ops i=some d:=by simp[aM,ho,hd]
 refine⟨fun w' hb hR=> ?_, .inl ⟨c,fun v w hv=>by rw[h2]at hv;exact hv,by rw[e];exact h3⟩⟩
 rw[if_neg (by rw[hz];simp)]
 refine⟨o,d,ho,hd,hlt, ?_⟩
 rw[if_pos (by unfold Region.wanted;rw[hg])]
 exact h1 ⟨w',hb⟩ hR _ fun w'' hb'=>⟨c,by rw[hd],hb',by rw[h2];rfl⟩
end
end
end Go.Proofs.YtffbilcjhlncfaaGreatDoor
