/- texts: MT MS O0 O1 O2 O3. -/
import Derived.Test.YtleamcmbhioedaaGreatDoorAKS38
namespace Go.Proofs.YtleamcmbhioedaaGreatDoor
set_option maxHeartbeats 8000000
set_option linter.unusedSimpArgs false
set_option linter.unusedVariables false
section
open Go.RowKit
set_option maxRecDepth 100000
def exA:List (List Q4):=[CV 0 0 0 2 2 2]
def exB:List (List Q4):=[CV 2 0 0 4 2 2]
def exL:List (List (List Q4)):=[exA,exB]
theorem Dw (cs:List Q4):ed cs=msF (fun x y=> !decide (iO y x<0)) cs.length cs:=lL _ _ _ (Nat.le_refl _)
theorem Er:aa exA=0:=by
 simp only[aa,exA,lr,bK,aS,Dw]
 kernel_rfl
theorem Es:aa exB=0:=by
 simp only[aa,exB,lr,bK,aS,Dw]
 kernel_rfl
theorem Lt:blE exA exB (1,1,0)=0:=by unfold blE;rw[if_pos Er,if_pos Es];rfl
theorem Lu:blE exA exB (0,1,0)=0:=by unfold blE;rw[if_pos Er,if_pos Es];rfl
theorem Mk:KZ exA exB (1,1,0)=true:=by kernel_rfl
theorem Ml:KZ exA exB (0,1,0)=false:=by kernel_rfl
theorem Kl:cy exA exB=false:=by
 simp only[cy,exA,exB,clB,aS,Dw]
 kernel_rfl
theorem MI:eB exL=0:=by
 have h1:nb exA=0:=by unfold nb;rw[if_pos Er];rfl
 have h2:nb exB=0:=by unfold nb;rw[if_pos Es];rfl
 have h3:cx exL=0:=by simp[exL,cx,h1,h2]
 have h4:mc exL=false:=by
  show((List.range 2).any fun i=>(List.range i).any fun k=>cy (exL.getD k []) (exL.getD i []))=false
  simp only[List.range,List.range.loop,List.any_cons,List.any_nil,Bool.or_false,Bool.false_or]
  exact Kl
 unfold eB
 rw[if_neg (by decide),if_pos h3,h4]
 rfl
theorem Mm:gh [0,1] 2=0:=by kernel_rfl
theorem Mn:fsE exL [0,1]=0:=by unfold fsE;rw[if_pos MI];exact Mm
theorem Fu:fsA exL [0,1]=some ((-1, -1, -1),1):=by kernel_rfl
theorem Lv:nr [0,1]=3:=by kernel_rfl
theorem Mo:av 3=[0,1]:=by kernel_rfl
theorem Mp:av 1=[0]:=by kernel_rfl
theorem Lw:CE [([0,1],[0],(-1, -1, -1))]=0:=by kernel_rfl
theorem Lx:Ep [([0,1],[0],(-1, -1, -1))]=[48,44,49,32,48,32,45,49,32,45,49,32,45,49,10]:=by kernel_rfl
end
section
open Go.RowKit Go.Shelf Go.Lib
set_option maxRecDepth 100000
attribute [local go_sem] Ext.cell Ext.frozen
theorem Fv {W:World} {T:TypeId} (xs:List Int) {g:Nat} (hg:g=W.heap.size):Ints (W.alloc (.cells (xs.map (Value.int .i64)).toArray T)) (.slice (some ⟨g,0,none⟩) xs.length xs.length) xs:=
 ⟨_,_,_,rfl,rfl,Nat.le_refl _,fun _=>⟨g,0,rfl,fun i hi=>by
  refine(aq hg _).trans ?_
  simp[hi]⟩⟩
theorem Km {w:World} {g:Nat} {v:Value} {ps:List Q4} (h0:w.cell? ⟨g,0,none⟩=some v) (h:Q4s w v ps):SolV w (.slice (some ⟨g,0,none⟩) 1 1) [ps]:=
 ⟨_,_,_,rfl,rfl,Nat.le_refl _,fun _=>⟨g,0,rfl,fun i hi=>by
  have:i=0:=by simpa using hi
  subst this
  exact⟨v,h0,h⟩⟩⟩
theorem Fw {w:World} {v:Value} {xs:List Q4} {g:Nat} {a:Value} {T:TypeId} (h:Q4s w v xs) (hg:w.heap[g]? =some (.cells #[a] T (0,0))) (ha:∀i,a≠ .int .i64 i) (o:Nat) (u:Value):Q4s (w.setCell ⟨g,o,none⟩ u) v xs:=by
 obtain⟨ad,n,c,e,hn,hc,hx⟩:=h
 refine⟨ad,n,c,e,hn,hc,fun h0=> ?_⟩
 obtain⟨k,off,e2,hi⟩:=hx h0
 have hbg:k≠g:=by
  rintro rfl
  have h1:=(hi 0 (by omega)).1
  rw[ag hg]at h1
  match off,h1 with
  |0,h1=>simp at h1;exact ha _ h1
  |n+1,h1=>simp at h1
 refine⟨k,off,e2,fun i hil=> ?_⟩
 obtain⟨c0,c1,c2,c3⟩:=hi i hil
 exact⟨(eW hbg).trans c0,(eW hbg).trans c1,(eW hbg).trans c2,(eW hbg).trans c3⟩
theorem IB {w:World} {v:Value} {css:List (List Q4)} {g:Nat} {T:TypeId} (h:SolV w v css) (hg:w.heap[g]? =some (.cells #[.slice none 0 0] T (0,0))) (hn:∀x∈css,0<x.length) (o:Nat) (u:Value):SolV (w.setCell ⟨g,o,none⟩ u) v css:=by
 obtain⟨ad,n,c,e,hl,hc,hx⟩:=h
 refine⟨ad,n,c,e,hl,hc,fun h0=> ?_⟩
 obtain⟨k,off,e2,hi⟩:=hx h0
 refine⟨k,off,e2,fun i hil=> ?_⟩
 obtain⟨x,hx,hq⟩:=hi i hil
 have hbg:k≠g:=by
  rintro rfl
  rw[ag hg]at hx
  match off+i,hx with
  |0,hx=>
   simp at hx
   subst hx
   obtain⟨ad',n',c',e',hn',_⟩:=hq
   cases e'
   have:=hn _ (List.getElem_mem hil)
   omega
  |n+1,hx=>simp at hx
 exact⟨x,(eW hbg).trans hx,Fw hq hg (fun _ h=>by cases h) _ _⟩
theorem IC (x1 y1 z1 x2 y2 z2:Int) (W:World) (h1: -300000≤x1∧x1≤300000) (h2: -300000≤y1∧y1≤300000) (h3: -300000≤z1∧z1≤300000) (h4: -300000≤x2∧x2≤300000) (h5: -300000≤y2∧y2≤300000) (h6: -300000≤z2∧z2≤300000) (hx:x1<x2) (hy:y1<y2) (hz:z1<z2):
  Calls Tryz.prog 69 #[.agg #[.int .i64 x1, .int .i64 y1, .int .i64 z1, .int .i64 x2, .int .i64 y2, .int .i64 z2]] W (fun e w'=>∃sv,e= .returned (.tuple #[.agg #[sv], .int .i64 0])∧Below W.heap.size W w'∧SolV w' sv [CV x1 y1 z1 x2 y2 z2]):=by
 have HO:=fun W'=>Lib.hid (Gq x1 y1 z1 x2 y2 z2 W' h1 h2 h3 h4 h5 h6)
 have HR:=fun W' v (h:Ints W' v [x1,y1,z1,x2,y2,z2])=>Lib.hid (Lo [x1,y1,z1,x2,y2,z2] v W' (by simp;omega) (by simp) h)
 have HI:Hid (Ints (((W.alloc (.cells #[.int .i64 x1, .int .i64 y1, .int .i64 z1, .int .i64 x2, .int .i64 y2, .int .i64 z2] 85)).alloc (.cells #[.slice none 0 0] 31)).alloc (.cells #[.int .i64 x1, .int .i64 y1, .int .i64 z1, .int .i64 x2, .int .i64 y2, .int .i64 z2] 3)) (.slice (some ⟨W.heap.size+1+1,0,none⟩) 6 6) [x1,y1,z1,x2,y2,z2]):=Lib.hid (Fv (T:=3) [x1,y1,z1,x2,y2,z2] (by simp))
 obtain⟨V,HV⟩:∃V,Hid (((W.alloc (.cells #[.int .i64 x1, .int .i64 y1, .int .i64 z1, .int .i64 x2, .int .i64 y2, .int .i64 z2] 85)).alloc (.cells #[.slice none 0 0] 31)).alloc (.cells #[.int .i64 x1, .int .i64 y1, .int .i64 z1, .int .i64 x2, .int .i64 y2, .int .i64 z2] 3)=V):=⟨_,Lib.hid rfl⟩
 have hV:Below W.heap.size W V:=by rw[←HV.out];exact bel
 have HC:Hid (V.heap[W.heap.size]? =some (.cells #[.int .i64 x1, .int .i64 y1, .int .i64 z1, .int .i64 x2, .int .i64 y2, .int .i64 z2] 85 (0,0))):=Lib.hid (by rw[←HV.out];exact(aB (by simp;omega)).trans ((aB (by simp)).trans (ai rfl)))
 have HD:Hid (V.heap[W.heap.size+1]? =some (.cells #[.slice none 0 0] 31 (0,0))):=Lib.hid (by rw[←HV.out];exact(aB (by simp)).trans (ai (by simp)))
 rw[HV.out]at HI
 have q1:decide (x2≤x1)=false:=decide_eq_false (by omega)
 have q2:decide (y2≤y1)=false:=decide_eq_false (by omega)
 have q3:decide (z2≤z1)=false:=decide_eq_false (by omega)
 have q1':¬x2≤x1:=by omega
 have q2':¬y2≤y1:=by omega
 have q3':¬z2≤z1:=by omega
 generalize CV x1 y1 z1 x2 y2 z2=B at*
 clear h1 h2 h3 h4 h5 h6 hx hy hz
 go_enter Tryz.func69,Tryz.ntmps69
 go_wp2_with fail
 rw[HV.out]
 refine((HR _ _ HI.out).out).mono ?_
 rintro e w1 ⟨rfl,hb1⟩
 have hC:=(hb1.block _ (ah HC.out)).trans HC.out
 have hD:=(hb1.block _ (ah HD.out)).trans HD.out
 have hb1':=fB hV hb1
 clear HR HI HV HC HD hb1 hV
 have c0:=(ag hC 0).trans rfl
 have c1:=(ag hC 1).trans rfl
 have c2:=(ag hC 2).trans rfl
 have c3:=(ag hC 3).trans rfl
 have c4:=(ag hC 4).trans rfl
 have c5:=(ag hC 5).trans rfl
 have cz:=ah hC
 go_wp2_with fail
 refine((HO _).out).mono ?_
 rintro e w2 ⟨pv,rfl,hb2,hq⟩
 have HQ:=Lib.hid hq
 obtain⟨pa,pn,pc,rfl, -⟩:=hq
 have hW2:=fB hb1' (fB bel hb2)
 have hD2:=(hb2.block _ (ah hD)).trans hD
 clear c0 c1 c2 c3 c4 c5 cz hC hD HO
 have d0:=(ag hD2 0).trans rfl
 have df:=aC hD2
 have dz:=ah hD2
 have hS:=br hD2 0 (.slice (some ⟨w2.heap.size,0,none⟩) 1 1)
 obtain⟨Y,HY⟩:∃Y,Hid ((w2.setCell ⟨W.heap.size+1,0,none⟩ (.slice (some ⟨w2.heap.size,0,none⟩) 1 1)).alloc (.cells #[.slice pa pn pc] 68)=Y):=⟨_,Lib.hid rfl⟩
 have hbY:Below W.heap.size W Y:=by rw[←HY.out];exact(hW2.setCell (p:=⟨W.heap.size+1,0,none⟩) (by show _≤W.heap.size+1;omega) _).alloc (by have:=hW2.size;simp;omega) _
 have hN:Y.cell? ⟨w2.heap.size,0,none⟩=some (.slice pa pn pc):=by rw[←HY.out];exact(aq (by simp) 0).trans rfl
 have hQY:Q4s Y (.slice pa pn pc) B:=by rw[←HY.out];exact(Fw HQ.out hD2 (fun _ h=>by cases h) _ _).below bel
 have hr:Y.cell? ⟨W.heap.size+1,0,none⟩=some (.slice (some ⟨w2.heap.size,0,none⟩) 1 1):=by rw[←HY.out];exact(ag ((aB (by simp;omega)).trans hS) 0).trans rfl
 go_wp2
 rw[HY.out]
 refine bodyPost_ret (v:= .tuple #[.agg #[.slice (some ⟨w2.heap.size,0,none⟩) 1 1], .int .i64 0]) (by simp[results,Tryz.results69,go_sem,hr]) rfl ⟨_,rfl,hbY,Km hN hQY⟩
theorem Ly (x1 y1 z1 x2 y2 z2:Int):∀x∈[CV x1 y1 z1 x2 y2 z2],0<x.length:=by
 intro x hx
 rw[List.mem_singleton]at hx
 subst hx
 show 0<6
 omega
theorem Fx (x1 y1 z1 x2 y2 z2:Int) (W:World) (h1: -300000≤x1∧x1≤300000) (h2: -300000≤y1∧y1≤300000) (h3: -300000≤z1∧z1≤300000) (h4: -300000≤x2∧x2≤300000) (h5: -300000≤y2∧y2≤300000) (h6: -300000≤z2∧z2≤300000) (hx:x1<x2) (hy:y1<y2) (hz:z1<z2):
  Calls Tryz.prog 40 #[.agg #[.int .i64 x1, .int .i64 y1, .int .i64 z1, .int .i64 x2, .int .i64 y2, .int .i64 z2]] W (fun e w'=>∃sv,e= .returned (.agg #[sv])∧Below W.heap.size W w'∧SolV w' sv [CV x1 y1 z1 x2 y2 z2]):=by
 have HO:=fun W'=>Lib.hid (IC x1 y1 z1 x2 y2 z2 W' h1 h2 h3 h4 h5 h6 hx hy hz)
 have hl:=Ly x1 y1 z1 x2 y2 z2
 generalize [CV x1 y1 z1 x2 y2 z2]=B at*
 clear h1 h2 h3 h4 h5 h6 hx hy hz
 obtain⟨V,HV⟩:∃V,Hid ((W.alloc (.cells #[.int .i64 x1, .int .i64 y1, .int .i64 z1, .int .i64 x2, .int .i64 y2, .int .i64 z2] 85)).alloc (.cells #[.slice none 0 0] 31)=V):=⟨_,Lib.hid rfl⟩
 have hV:Below W.heap.size W V:=by rw[←HV.out];exact bel
 have HD:Hid (V.heap[W.heap.size+1]? =some (.cells #[.slice none 0 0] 31 (0,0))):=Lib.hid (by rw[←HV.out];exact ai (by simp))
 go_enter Tryz.func40,Tryz.ntmps40
 go_wp2_with fail
 rw[HV.out]
 refine((HO _).out).mono ?_
 rintro e w1 ⟨sv,rfl,hb1,hs⟩
 have hD:=(hb1.block _ (ah HD.out)).trans HD.out
 have hb1':=fB hV hb1
 clear HO HV hV
 have d0:=(ag hD 0).trans rfl
 have df:=aC hD
 have dz:=ah hD
 obtain⟨sa,sn,sc,rfl,hx⟩:=id hs
 clear hx
 have HS:=Lib.hid hs
 obtain⟨Y,HY⟩:∃Y,Hid ((w1.setCell ⟨W.heap.size+1,0,none⟩ (.slice sa sn sc)).alloc (.cells #[.slice sa sn sc] 31)=Y):=⟨_,Lib.hid rfl⟩
 have hbY:Below W.heap.size W Y:=by rw[←HY.out];exact(hb1'.setCell (p:=⟨W.heap.size+1,0,none⟩) (by show _≤W.heap.size+1;omega) _).alloc (by have:=hb1'.size;simp;omega) _
 have hSY:SolV Y (.slice sa sn sc) B:=by rw[←HY.out];exact(IB HS.out hD hl 0 _).below bel
 have hr:Y.cell? ⟨W.heap.size+1,0,none⟩=some (.slice sa sn sc):=by rw[←HY.out];exact(ag ((aB (by simp;omega)).trans (br hD 0 _)) 0).trans rfl
 clear hs hD hl
 go_wp2
 rw[HY.out]
 refine bodyPost_ret (v:= .agg #[.slice sa sn sc]) (by simp[results,Tryz.results40,go_sem,hr]) rfl ⟨_,rfl,hbY,hSY⟩
def MJ (W:World) (e:Ending) (w':World):Prop:=∃g sa sb,e= .returned (.slice (some ⟨g,0,none⟩) 2 2)∧Below W.heap.size W w'∧w'.cell? ⟨g,0,none⟩=some sa∧w'.cell? ⟨g,1,none⟩=some sb∧SolV w' sa exA∧SolV w' sb exB
theorem Kn (W:World):Calls Tryz.prog 21 #[] W (MJ W):=by
 have H1:=fun W'=>Lib.hid (Fx 0 0 0 2 2 2 W' (by decide) (by decide) (by decide) (by decide) (by decide) (by decide) (by decide) (by decide) (by decide))
 have H2:=fun W'=>Lib.hid (Fx 2 0 0 4 2 2 W' (by decide) (by decide) (by decide) (by decide) (by decide) (by decide) (by decide) (by decide) (by decide))
 have e1: [CV 0 0 0 2 2 2]=exA:=rfl
 have e2: [CV 2 0 0 4 2 2]=exB:=rfl
 rw[e1]at H1
 rw[e2]at H2
 clear e1 e2
 go_enter Tryz.func21,Tryz.ntmps21
 go_wp2_with fail
 refine((H1 _).out).mono ?_
 rintro e w1 ⟨sa,rfl,hb1,hA⟩
 have HA:=Lib.hid hA
 clear hA
 go_wp2_with fail
 refine((H2 _).out).mono ?_
 rintro e w2 ⟨sb,rfl,hb2,hB⟩
 have HB:=Lib.hid hB
 clear hB H1 H2
 go_wp2
 go_ret
 exact⟨_,sa,sb,rfl,fB (fB hb1 hb2) bel,(aq rfl 0).trans rfl,(aq rfl 1).trans rfl,SolV.below HA.out (fB hb2 bel),SolV.below HB.out bel⟩
end
section
open Go.RowKit
def Bdd (ps:List Q4):Prop:=∀d:Q3,d≠(0,0,0)→∃p∈ps,0<bj (nrm p) d
def InP (ps:List Q4) (x:Q3) (W:Int):Prop:=∀p∈ps,0≤slk p x W
def Str (ps:List Q4) (x:Q3) (W:Int):Prop:=∀p∈ps,0<slk p x W
def Vert (ps C:List Q4):Prop:=∀p∈ps,∀q∈ps,∀r∈ps,bN p q r≠0→∀x W,0<W→InP ps x W→slk p x W=0→slk q x W=0→slk r x W=0→∃c∈C,SameAt c x W
theorem Str.inP {ps:List Q4} {x:Q3} {W:Int} (h:Str ps x W):InP ps x W:=fun p hp=>Int.le_of_lt (h p hp)
theorem Bdd.mono {ps qs:List Q4} (h:Bdd ps) (hs:∀p∈ps,p∈qs):Bdd qs:=fun d hd=>by obtain⟨p,hp,h0⟩:=h d hd;exact⟨p,hs p hp,h0⟩
theorem Fy {c:Q4} {x:Q3} {W:Int} (h:SameAt c x W) (f:Q3):bj f (xyz c)*W=bj f x*c.2.2.2:=by
 obtain⟨_,h1,h2,h3⟩:=h
 unfold bj xyz
 grind
theorem GQ {c:Q4} {x:Q3} {W:Int} (h:SameAt c x W) (hW:0<W) (p:Q4) (hp:0≤slk p x W):0≤slk p (xyz c) c.2.2.2:=
 mT hW (by rw[h.slk p];exact Int.mul_nonneg hp (Int.le_of_lt h.1))
theorem th (p c:Q4):cw p c= -(slk p (xyz c) c.2.2.2):=by
 unfold cw slk bj nrm xyz
 simp only
 omega
theorem Cq {L C:List Q4} (hB:Bdd L) (hV:Vert L C) (f x:Q3) (W:Int) (hW:0<W) (hin:InP L x W):
  ∃c∈C,0<c.2.2.2∧InP L (xyz c) c.2.2.2∧bj f (xyz c)*W≤bj f x*c.2.2.2:=by
 obtain⟨p1,h1,p2,h2,p3,h3,x',W',hW',hin',z1,z2,z3,h0,hf⟩:=yW L hB f x W hW hin
 obtain⟨c,hc,hs⟩:=hV p1 h1 p2 h2 p3 h3 h0 x' W' hW' hin' z1 z2 z3
 exact⟨c,hc,hs.1,fun q hq=>GQ hs hW' q (hin' q hq),vr hW' hW hs.1 hf (Int.le_of_eq (Fy hs f))⟩
def opQ (p:Q4):Q4:=(-p.1, -p.2.1, -p.2.2.1, -p.2.2.2)
theorem Gs (p:Q4) (x:Q3) (W:Int):slk (opQ p) x W= -(slk p x W):=by unfold slk opQ bj nrm;grind
theorem Et {L:List Q4} {p:Q4} (hp:p∈L) {q:Q4} (hq:q∈opQ p::L) {x:Q3} {W:Int} (h0:slk q x W=0):
  ∃r∈L,slk r x W=0∧∃s:Int,nrm q=(s*r.1,s*r.2.1,s*r.2.2.1):=by
 rcases List.mem_cons.1 hq with rfl|hq
 ·refine⟨p,hp,by rw[Gs]at h0;omega, -1, ?_⟩
  unfold nrm opQ
  simp
 ·exact⟨q,hq,h0,1,by unfold nrm;simp⟩
theorem DR {L C:List Q4} {p:Q4} (hp:p∈L) (hB:Bdd L) (hV:Vert L C) (f x:Q3) (W:Int) (hW:0<W) (hin:InP L x W) (h0:slk p x W=0):
  ∃c∈C,0<c.2.2.2∧slk p (xyz c) c.2.2.2=0∧bj f (xyz c)*W≤bj f x*c.2.2.2:=by
 obtain⟨p1,h1,p2,h2,p3,h3,x',W',hW',hin',z1,z2,z3,hd,hf⟩:=yW (opQ p::L) (hB.mono (fun q hq=>List.mem_cons_of_mem _ hq)) f x W hW (fun q hq=>by
  rcases List.mem_cons.1 hq with rfl|hq
  ·rw[Gs];omega
  ·exact hin q hq)
 obtain⟨q1,k1,y1,s1,e1⟩:=Et hp h1 z1
 obtain⟨q2,k2,y2,s2,e2⟩:=Et hp h2 z2
 obtain⟨q3,k3,y3,s3,e3⟩:=Et hp h3 z3
 have hd':bN q1 q2 q3≠0:=fun e=>hd (by
  have:bN p1 p2 p3=s1*s2*s3*bN q1 q2 q3:=by
   unfold bN
   rw[e1,e2,e3]
   unfold aN bj nrm
   grind
  rw[this,e,Int.mul_zero])
 obtain⟨c,hc,hs⟩:=hV q1 k1 q2 k2 q3 k3 hd' x' W' hW' (fun q hq=>hin' q (List.mem_cons_of_mem _ hq)) y1 y2 y3
 have ha:=hin' (opQ p) (by simp)
 have hb:=hin' p (List.mem_cons_of_mem _ hp)
 rw[Gs]at ha
 have hz:slk p x' W'=0:=by omega
 refine⟨c,hc,hs.1, ?_,vr hW' hW hs.1 hf (Int.le_of_eq (Fy hs f))⟩
 have h5:=hs.slk p
 rw[hz,Int.zero_mul]at h5
 exact(Int.mul_eq_zero.1 h5).resolve_right (by omega)
theorem Mq (a b c:Int) (h:¬(a=0∧b=0∧c=0)):0<a*a+b*b+c*c:=by
 have ha:0≤a*a:=by rcases Int.le_total 0 a with h|h;exact Int.mul_nonneg h h;exact Int.mul_nonneg_of_nonpos_of_nonpos h h
 have hb:0≤b*b:=by rcases Int.le_total 0 b with h|h;exact Int.mul_nonneg h h;exact Int.mul_nonneg_of_nonpos_of_nonpos h h
 have hc:0≤c*c:=by rcases Int.le_total 0 c with h|h;exact Int.mul_nonneg h h;exact Int.mul_nonneg_of_nonpos_of_nonpos h h
 rcases Decidable.em (a=0)with rfl|h1
 ·rcases Decidable.em (b=0)with rfl|h2
  ·have h3:c≠0:=fun e=>h ⟨rfl,rfl,e⟩
   have:c*c≠0:=fun e=>h3 (by rcases Int.mul_eq_zero.1 e with e|e<;>exact e)
   omega
  ·have:b*b≠0:=fun e=>h2 (by rcases Int.mul_eq_zero.1 e with e|e<;>exact e)
   omega
 ·have:a*a≠0:=fun e=>h1 (by rcases Int.mul_eq_zero.1 e with e|e<;>exact e)
  omega
theorem ne3 {d:Q3} (h:d≠(0,0,0)):¬(d.1=0∧d.2.1=0∧d.2.2=0):=fun⟨h1,h2,h3⟩=>h (by obtain⟨a,b,c⟩:=d;simp only at h1 h2 h3;rw[h1,h2,h3])
theorem ku {d:Q3} (h:d≠(0,0,0)):0<bj d d:=Mq _ _ _ (ne3 h)
theorem Mr (n v:Q3) (hn:n≠(0,0,0)) (hv:bj n v=0):∃d:Q3,d≠(0,0,0)∧bj n d=0∧bj d v=0:=by
 by_cases h0:v=(0,0,0)
 ·subst h0
  by_cases h1:n.1=0∧n.2.1=0
  ·exact⟨(1,0,0),by simp,by unfold bj;simp[h1.1],by unfold bj;simp⟩
  ·refine⟨(n.2.1, -n.1,0), ?_,by unfold bj;grind,by unfold bj;simp⟩
   intro e
   simp only[Prod.mk.injEq]at e
   omega
 ·refine⟨aN n v, ?_,by unfold bj aN;grind,by unfold bj aN;grind⟩
  intro e
  have h1:=ku hn
  have h2:=ku h0
  have h3:bj (aN n v) (aN n v)=bj n n*bj v v-bj n v*bj n v:=by unfold bj aN;grind
  rw[e,hv]at h3
  have h4:=Int.mul_pos h1 h2
  have:bj ((0,0,0):Q3) (0,0,0)=0:=rfl
  omega
theorem CF (d:Q3) (x:Q3) (W:Int):∀l:List Q4,Str l x W→∃K:Int,0<K∧∀k,K≤k→Str l (mv x d k 1) (k*W)
 | [],_=>⟨1,by omega,fun _ _ q h=>by cases h⟩
 |p::l,h=>by
  obtain⟨K,hK,hk⟩:=CF d x W l (fun q hq=>h q (List.mem_cons_of_mem _ hq))
  have hp:=h p (by simp)
  refine⟨K+(bj (nrm p) d).natAbs,by omega,fun k hk' q hq=> ?_⟩
  rcases List.mem_cons.1 hq with rfl|hq
  ·rw[rh,Int.one_mul]
   have h1:k*1≤k*slk q x W:=Int.mul_le_mul_of_nonneg_left hp (by omega)
   omega
  ·exact hk k (by omega) q hq
theorem Da (p:Q4) (x y:Q3) (V W a b:Int):slk p (a*x.1+b*y.1,a*x.2.1+b*y.2.1,a*x.2.2+b*y.2.2) (a*V+b*W)=a*slk p x V+b*slk p y W:=by unfold slk bj;grind
theorem Ms {C:List Q4} {p:Q4} (h3:onA C p<3):∃v:Q3,bj (nrm p) v=0∧∀d:Q3,bj d v=0→∀c∈C,∀c'∈C,slk p (xyz c) c.2.2.2=0→slk p (xyz c') c'.2.2.2=0→bj d (xyz c)*c'.2.2.2=bj d (xyz c')*c.2.2.2:=by
 have hm:∀c∈C,slk p (xyz c) c.2.2.2=0→c∈C.filter (fun x=>cw p x==0):=fun c hc h=>by
  rw[List.mem_filter]
  exact⟨hc,by rw[th,h];rfl⟩
 have hs:∀c∈C.filter (fun x=>cw p x==0),slk p (xyz c) c.2.2.2=0:=fun c hc=>by
  have:=(List.mem_filter.1 hc).2
  rw[th]at this
  have h2: -(slk p (xyz c) c.2.2.2)=0:=by simpa using this
  omega
 unfold onA at h3
 generalize C.filter (fun x=>cw p x==0)=F at*
 match F,h3 with
 | [],_=>exact⟨(0,0,0),by unfold bj;simp,fun d _ c hc c' _ h _=>by have:=hm c hc h;cases this⟩
 | [a],_=>exact⟨(0,0,0),by unfold bj;simp,fun d _ c hc c' hc' h h'=>by
   have e1:=List.mem_singleton.1 (hm c hc h)
   have e2:=List.mem_singleton.1 (hm c' hc' h')
   rw[e1,e2]⟩
 | [a,b],_=>
  refine⟨(a.2.2.2*b.1-b.2.2.2*a.1,a.2.2.2*b.2.1-b.2.2.2*a.2.1,a.2.2.2*b.2.2.1-b.2.2.2*a.2.2.1), ?_,fun d hd c hc c' hc' h h'=> ?_⟩
  ·have h1:=hs a (by simp)
   have h2:=hs b (by simp)
   unfold slk bj xyz nrm at*
   grind
  ·have hab:bj d (xyz b)*a.2.2.2=bj d (xyz a)*b.2.2.2:=by
    unfold bj xyz at*
    grind
   have e1:=hm c hc h
   have e2:=hm c' hc' h'
   simp only[List.mem_cons,List.not_mem_nil,or_false]at e1 e2
   rcases e1 with rfl|rfl<;>rcases e2 with rfl|rfl
   ·rfl
   ·exact hab.symm
   ·exact hab
   ·rfl
 |_::_::_::_,h=>exact absurd h (by simp only[List.length_cons];omega)
theorem ID {L M C:List Q4} {p:Q4} (hp:p∈L) (hM:∀q∈L,q=p∨q∈M) (hML:∀q∈M,q∈L) (hB:Bdd L) (hV:Vert L C) (o:Q3) (W0:Int) (hW0:0<W0) (ho:Str L o W0)
  (h3:onA C p<3) (y:Q3) (Wy:Int) (hWy:0<Wy) (hy:InP M y Wy):0≤slk p y Wy:=by
 refine Classical.byContradiction fun hng=> ?_
 have ha:=ho p hp
 generalize hA:slk p o W0=a at*
 obtain⟨b,hb⟩:∃b,b= -(slk p y Wy):=⟨_,rfl⟩
 have hb0:0<b:=by omega
 have hn:nrm p≠(0,0,0):=by
  intro e
  unfold slk at hA hb
  rw[e]at hA hb
  have e0:∀z:Q3,bj (0,0,0) z=0:=fun z=>by unfold bj;simp
  rw[e0]at hA hb
  have h1:0<p.2.2.2:=mu hW0 (by omega)
  have:=Int.mul_pos h1 hWy
  omega
 obtain⟨v,hv0,hv⟩:=Ms h3
 obtain⟨d,hd0,hd1,hd2⟩:=Mr (nrm p) v hn hv0
 have hdd:=ku hd0
 obtain⟨z,hz⟩:∃z:Q3,z=(b*o.1+a*y.1,b*o.2.1+a*y.2.1,b*o.2.2+a*y.2.2):=⟨_,rfl⟩
 obtain⟨V,hV0⟩:∃V,V=b*W0+a*Wy:=⟨_,rfl⟩
 have hVp:0<V:=by have:=Int.mul_pos hb0 hW0;have:=Int.mul_pos ha hWy;omega
 have sz:∀q,slk q z V=b*slk q o W0+a*slk q y Wy:=fun q=>by rw[hz,hV0,Da]
 have szp:slk p z V=0:=by
  rw[sz,hA,show slk p y Wy= -b by omega,Int.mul_neg,Int.mul_comm];omega
 have szM:Str M z V:=fun q hq=>by
  rw[sz]
  have h1:=Int.mul_pos hb0 (ho q (hML q hq))
  have h2:=Int.mul_nonneg (Int.le_of_lt ha) (hy q hq)
  omega
 obtain⟨K1,hK1,k1⟩:=CF d z V M szM
 obtain⟨K2,hK2,k2⟩:=CF (-d.1, -d.2.1, -d.2.2) z V M szM
 obtain⟨k,hk⟩:∃k,k=K1+K2:=⟨_,rfl⟩
 have hkp:0<k:=by omega
 have hkV:0<k*V:=Int.mul_pos hkp hVp
 have hnf:∀f:Q3,bj f (-d.1, -d.2.1, -d.2.2)= -(bj f d):=fun f=>by unfold bj;grind
 have hnd:∀f:Q3,bj (-d.1, -d.2.1, -d.2.2) f= -(bj d f):=fun f=>by unfold bj;grind
 have i1:InP L (mv z d k 1) (k*V):=fun q hq=>by
  rcases hM q hq with rfl|hq
  ·rw[rh,szp,hd1];omega
  ·exact Int.le_of_lt (k1 k (by omega) q hq)
 have i2:InP L (mv z (-d.1, -d.2.1, -d.2.2) k 1) (k*V):=fun q hq=>by
  rcases hM q hq with rfl|hq
  ·rw[rh,szp,hnf,hd1];omega
  ·exact Int.le_of_lt (k2 k (by omega) q hq)
 have z1:slk p (mv z d k 1) (k*V)=0:=by rw[rh,szp,hd1];omega
 have z2:slk p (mv z (-d.1, -d.2.1, -d.2.2) k 1) (k*V)=0:=by rw[rh,szp,hnf,hd1];omega
 obtain⟨c,hc,hcW,hcp,hcf⟩:=DR hp hB hV d _ _ hkV i2 z2
 obtain⟨c',hc',hcW',hcp',hcf'⟩:=DR hp hB hV (-d.1, -d.2.1, -d.2.2) _ _ hkV i1 z1
 have he:=hv d hd2 c hc c' hc' hcp hcp'
 rw[vq,hnf]at hcf
 rw[vq,hnd,hnd,hnd]at hcf'
 generalize bj d (xyz c)=u at*
 generalize bj d (xyz c')=u' at*
 generalize bj d z=m at*
 generalize bj d d=D at*
 generalize c.2.2.2=w at*
 generalize c'.2.2.2=w' at*
 generalize k*V=T at*
 have f1:u*T*w'≤(k*m+1* -D)*w*w':=Int.mul_le_mul_of_nonneg_right hcf (by omega)
 have f2: -u'*T*w≤(k* -m+1* -D)*w'*w:=Int.mul_le_mul_of_nonneg_right hcf' (by omega)
 have f3:0<D*(w*w'):=Int.mul_pos hdd (Int.mul_pos hcW hcW')
 have f4:u*T*w'=u'*T*w:=by
  have:u*T*w'=u*w'*T:=by grind
  rw[this,he];grind
 have f5:(k*m+1* -D)*w*w'=k*m*(w*w')-D*(w*w'):=by grind
 have f6:(k* -m+1* -D)*w'*w= -(k*m*(w*w'))-D*(w*w'):=by grind
 have f7: -u'*T*w= -(u'*T*w):=by grind
 omega
theorem Dx {L M:List Q4} (hB:Bdd L) (hsub:∀y W,0<W→InP M y W→InP L y W) (o:Q3) (W0:Int) (hW0:0<W0) (ho:InP M o W0):Bdd M:=by
 intro d hd
 refine Classical.byContradiction fun hno=> ?_
 obtain⟨p,hp,hpd⟩:=hB d hd
 have hL:=hsub o W0 hW0 ho p hp
 have h1:InP M (mv o d 1 (slk p o W0+1)) (1*W0):=fun q hq=>by
  rw[rh]
  have h2:bj (nrm q) d≤0:=Int.not_lt.1 fun h=>hno ⟨q,hq,h⟩
  have h3:=Int.mul_nonneg (show 0≤slk p o W0+1 by omega) (show 0≤ -(bj (nrm q) d) by omega)
  have h4:=ho q hq
  rw[Int.mul_neg]at h3
  omega
 have h2:=hsub _ _ (by omega) h1 p hp
 rw[rh]at h2
 have h3:(slk p o W0+1)*1≤(slk p o W0+1)*bj (nrm p) d:=Int.mul_le_mul_of_nonneg_left hpd (by omega)
 omega
theorem Vert.sub {L M C:List Q4} (h:Vert L C) (hML:∀q∈M,q∈L) (hsub:∀y W,0<W→InP M y W→InP L y W):Vert M C:=fun p hp q hq r hr hd x W hW hin=>h p (hML p hp) q (hML q hq) r (hML r hr) hd x W hW (hsub x W hW hin)
theorem CG (C:List Q4) (o:Q3) (W0:Int) (hW0:0<W0):∀R K:List Q4,Bdd (K++R)→Vert (K++R) C→Str (K++R) o W0→
  ∀y W,0<W→InP (K++jz R C) y W→InP (K++R) y W
 | [],K,_,_,_=>fun y W _ h=>h
 |r::R,K,hB,hV,ho=>by
  by_cases h3:3≤onA C r
  ·have e1:K++jz (r::R) C=(K++[r])++jz R C:=by unfold jz;simp[h3]
   have e2:K++r::R=(K++[r])++R:=by simp
   rw[e1,e2]
   rw[e2]at hB hV ho
   exact CG C o W0 hW0 R (K++[r]) hB hV ho
  ·have e1:K++jz (r::R) C=K++jz R C:=by unfold jz;simp[h3]
   rw[e1]
   have hM:∀q∈K++r::R,q=r∨q∈K++R:=fun q hq=>by
    simp only[List.mem_append,List.mem_cons]at hq ⊢
    rcases hq with h|h|h
    ·exact .inr (.inl h)
    ·exact .inl h
    ·exact .inr (.inr h)
   have hML:∀q∈K++R,q∈K++r::R:=fun q hq=>by
    simp only[List.mem_append,List.mem_cons]at hq ⊢
    rcases hq with h|h
    ·exact .inl h
    ·exact .inr (.inr h)
   have hsub:∀y W,0<W→InP (K++R) y W→InP (K++r::R) y W:=fun y W hW hy q hq=>by
    rcases hM q hq with rfl|h
    ·exact ID (by simp) hM hML hB hV o W0 hW0 ho (by omega) y W hW hy
    ·exact hy q h
   have hoM:Str (K++R) o W0:=fun q hq=>ho q (hML q hq)
   have ih:=CG C o W0 hW0 R K (Dx hB hsub o W0 hW0 hoM.inP) (hV.sub hML hsub) hoM
   exact fun y W hW h=>hsub y W hW (ih y W hW h)
theorem Fz (ps:List Q4) (d e:Q3) (hd:∀p∈ps,bj (nrm p) d≤0) (hde:bj d e=0) (hdd:0<bj d d) (he:∃p∈ps,bj (nrm p) e≠0):
  ∃p∈ps,bj (nrm p) e≠0∧∃d':Q3,(∀q∈ps,bj (nrm q) d'≤0)∧bj (nrm p) d'=0∧d'≠(0,0,0)∧∀q:Q3,bj q d=0→bj q e=0→bj q d'=0:=by
 have key:∀e:Q3,bj d e=0→(∃p∈ps,0<bj (nrm p) e)→∃p∈ps,0<bj (nrm p) e∧∃d':Q3,(∀q∈ps,bj (nrm q) d'≤0)∧bj (nrm p) d'=0∧d'≠(0,0,0)∧∀q:Q3,bj q d=0→bj q e=0→bj q d'=0:=by
  intro e hde he
  obtain⟨p,hp,ht,hm⟩:=nl (fun p=> -(bj (nrm p) d)) (fun p=>bj (nrm p) e) ps he
  have hs:=hd p hp
  refine⟨p,hp,ht,mv d e (bj (nrm p) e) (-(bj (nrm p) d)),fun q hq=> ?_, ?_, ?_,fun q h1 h2=> ?_⟩
  ·rw[vq]
   by_cases h0:0<bj (nrm q) e
   ·have h1:=hm q hq h0
    rw[Int.neg_mul,Int.neg_mul]at h1
    have e1:bj (nrm p) e*bj (nrm q) d=bj (nrm q) d*bj (nrm p) e:=Int.mul_comm _ _
    rw[Int.neg_mul]
    omega
   ·have h1:=Int.mul_nonneg (Int.le_of_lt ht) (show 0≤ -(bj (nrm q) d) by have:=hd q hq;omega)
    have h2:=Int.mul_nonneg (show 0≤ -(bj (nrm p) d) by omega) (show 0≤ -(bj (nrm q) e) by omega)
    rw[Int.mul_neg]at h1 h2
    omega
  ·rw[vq,Int.neg_mul,Int.mul_comm];omega
  ·intro h0
   have h1:bj d (mv d e (bj (nrm p) e) (-(bj (nrm p) d)))=0:=by rw[h0];unfold bj;simp
   rw[vq,hde,Int.mul_zero,Int.add_zero]at h1
   have:=Int.mul_pos ht hdd
   omega
  ·rw[vq,h1,h2];omega
 by_cases h:∃p∈ps,0<bj (nrm p) e
 ·obtain⟨p,hp,h0,d',h1,h2,h3,h4⟩:=key e hde h
  exact⟨p,hp,by omega,d',h1,h2,h3,h4⟩
 ·have hn:∀f:Q3,bj f (-e.1, -e.2.1, -e.2.2)= -(bj f e):=fun f=>by unfold bj;grind
  obtain⟨p,hp,h0,d',h1,h2,h3,h4⟩:=key (-e.1, -e.2.1, -e.2.2) (by rw[hn,hde];rfl) (by
   obtain⟨p,hp,h0⟩:=he
   have:¬0<bj (nrm p) e:=fun h1=>h ⟨p,hp,h1⟩
   exact⟨p,hp,by rw[hn];omega⟩)
  rw[hn]at h0
  exact⟨p,hp,by omega,d',h1,h2,h3,fun q g1 g2=>h4 q g1 (by rw[hn,g2];rfl)⟩
theorem FA (ps:List Q4) (h:bx ps=true):Bdd ps:=by
 unfold bx at h
 rw[Bool.and_eq_true]at h
 obtain⟨hg,hf⟩:=h
 have hln:∀i k,dJ ps k i=(-(dJ ps i k).1, -(dJ ps i k).2.1, -(dJ ps i k).2.2):=fun i k=>by unfold dJ aN;simp only[Prod.mk.injEq];refine⟨?_, ?_, ?_⟩<;>grind
 have hG:∀p∈ps,∀q∈ps,aN (nrm p) (nrm q)≠(0,0,0)→(∃r∈ps,0<bj (aN (nrm p) (nrm q)) (nrm r))∧∃r∈ps,bj (aN (nrm p) (nrm q)) (nrm r)<0:=by
  have key:∀i k,i<ps.length→k<i→dJ ps i k≠(0,0,0)→(∃r∈ps,0<bj (dJ ps i k) (nrm r))∧∃r∈ps,bj (dJ ps i k) (nrm r)<0:=fun i k hi hk h0=>by
   have h1:=List.all_eq_true.1 hg i (by simpa using hi)
   have h2:=List.all_eq_true.1 h1 k (by simpa using hk)
   unfold ij nzB at h2
   rw[decide_eq_true h0]at h2
   unfold mR mS at h2
   rw[List.take_length]at h2
   simp only[Bool.not_true,Bool.false_or,Bool.and_eq_true,List.any_eq_true,decide_eq_true_eq]at h2
   exact h2
  intro p hp q hq h0
  obtain⟨i,hi,rfl⟩:=jA hp
  obtain⟨k,hk,rfl⟩:=jA hq
  rcases Nat.lt_trichotomy i k with h1|h1|h1
  ·have e:aN (nrm (bm ps i)) (nrm (bm ps k))=(-(dJ ps k i).1, -(dJ ps k i).2.1, -(dJ ps k i).2.2):=hln k i
   have hn:∀f:Q3,bj (-(dJ ps k i).1, -(dJ ps k i).2.1, -(dJ ps k i).2.2) f= -(bj (dJ ps k i) f):=fun f=>by unfold bj;grind
   rw[e]at h0 ⊢
   obtain⟨⟨r,hr,h2⟩,r',hr',h3⟩:=key k i hk h1 (fun e0=>h0 (by rw[e0];rfl))
   exact⟨⟨r',hr',by rw[hn];omega⟩,r,hr,by rw[hn];omega⟩
  ·subst h1
   exact absurd (by unfold aN;simp only[Prod.mk.injEq];refine⟨?_, ?_, ?_⟩<;>grind) h0
  ·exact key i k hi h1 h0
 have hsp:∃p∈ps,∃q∈ps,∃r∈ps,bN p q r≠0:=by
  unfold jw jv at hf
  simp only[List.any_eq_true,List.mem_range]at hf
  obtain⟨i,hi,k,hk,h0⟩:=hf
  have h0:dJ ps i k≠(0,0,0):=of_decide_eq_true h0
  have g:∀j,j<ps.length→bm ps j∈ps:=fun j hj=>by
   have:bm ps j=ps[j]:=by simp[bm,List.getD,hj]
   rw[this];exact List.getElem_mem hj
  obtain⟨⟨r,hr,h2⟩,_⟩:=hG _ (g i hi) _ (g k (by omega)) h0
  exact⟨_,g i hi,_,g k (by omega),r,hr,by unfold bN;omega⟩
 obtain⟨a,ha,b,hb,c,hc,hden⟩:=hsp
 have hspan:∀e:Q3,e≠(0,0,0)→∃p∈ps,bj (nrm p) e≠0:=fun e he=>by
  refine Classical.byContradiction fun hno=> ?_
  have z:∀p∈ps,bj (nrm p) e=0:=fun p hp=>Classical.byContradiction fun h0=>hno ⟨p,hp,h0⟩
  obtain⟨c1,c2,c3⟩:=yX (nrm a) (nrm b) (nrm c) e
  rw[z a ha,z b hb,z c hc]at c1 c2 c3
  have hz:∀u v w:Q3,fP 0 0 0 u v w=(0,0,0):=fun u v w=>by unfold fP;simp
  rw[hz]at c1 c2 c3
  obtain⟨e1,e2,e3⟩:=e
  unfold bN at hden
  refine he ?_
  have g1:e1=0:=(Int.mul_eq_zero.1 c1).resolve_left hden
  have g2:e2=0:=(Int.mul_eq_zero.1 c2).resolve_left hden
  have g3:e3=0:=(Int.mul_eq_zero.1 c3).resolve_left hden
  rw[g1,g2,g3]
 intro d hd
 refine Classical.byContradiction fun hno=> ?_
 have hcone:∀p∈ps,bj (nrm p) d≤0:=fun p hp=>Int.not_lt.1 fun h=>hno ⟨p,hp,h⟩
 obtain⟨e,he,_,hed⟩:=Mr d (0,0,0) hd (by unfold bj;simp)
 obtain⟨e,he0,hde,_⟩:=Mr d (0,0,0) hd (by unfold bj;simp)
 obtain⟨p1,hp1,hpe,d1,hc1,ht1,hd1,_⟩:=Fz ps d e hcone hde (ku hd) (hspan e he0)
 have hn1:nrm p1≠(0,0,0):=fun e0=>hpe (by rw[e0];unfold bj;simp)
 have he2:aN (nrm p1) d1≠(0,0,0):=fun e0=>by
  have h3:bj (aN (nrm p1) d1) (aN (nrm p1) d1)=bj (nrm p1) (nrm p1)*bj d1 d1-bj (nrm p1) d1*bj (nrm p1) d1:=by unfold bj aN;grind
  rw[e0,ht1]at h3
  have:=Int.mul_pos (ku hn1) (ku hd1)
  have:bj ((0,0,0):Q3) (0,0,0)=0:=rfl
  omega
 obtain⟨p2,hp2,hpe2,d2,hc2,ht2,hd2,hk2⟩:=Fz ps d1 (aN (nrm p1) d1) hc1 (by unfold bj aN;grind) (ku hd1) (hspan _ he2)
 have ht12:=hk2 (nrm p1) ht1 (by unfold bj aN;grind)
 have hx:aN (nrm p1) (nrm p2)≠(0,0,0):=fun e0=>hpe2 (by
  have:bj (nrm p2) (aN (nrm p1) d1)= -(bj d1 (aN (nrm p1) (nrm p2))):=by unfold bj aN;grind
  rw[this,e0];unfold bj;simp)
 obtain⟨⟨r,hr,h1⟩,r',hr',h2⟩:=hG p1 hp1 p2 hp2 hx
 have hid:∀n:Q3,bj (aN (nrm p1) (nrm p2)) n*bj d2 d2=bj (aN (nrm p1) (nrm p2)) d2*bj n d2:=fun n=>by
  have:bj (aN (nrm p1) (nrm p2)) n*bj d2 d2-bj (aN (nrm p1) (nrm p2)) d2*bj n d2=bj (nrm p1) d2*bj (nrm p2) (aN n d2)-bj (nrm p2) d2*bj (nrm p1) (aN n d2):=by unfold bj aN;grind
  rw[ht12,ht2]at this
  omega
 have hdd:=ku hd2
 have g1:=hid (nrm r)
 have g2:=hid (nrm r')
 have k1:=Int.mul_pos h1 hdd
 have k2:=Int.mul_pos (show 0< -(bj (aN (nrm p1) (nrm p2)) (nrm r')) by omega) hdd
 rw[Int.neg_mul]at k2
 have n1:=hc2 r hr
 have n2:=hc2 r' hr'
 rcases Int.le_total 0 (bj (aN (nrm p1) (nrm p2)) d2)with h|h
 ·have:=Int.mul_nonneg h (show 0≤ -(bj (nrm r) d2) by omega)
  rw[Int.mul_neg]at this
  omega
 ·have:=Int.mul_nonneg (show 0≤ -(bj (aN (nrm p1) (nrm p2)) d2) by omega) (show 0≤ -(bj (nrm r') d2) by omega)
  rw[Int.neg_mul,Int.mul_neg]at this
  omega
def Ins (l:List Q4):Prop:=∃o:Q3,∃W:Int,0<W∧Str l o W
theorem Mt (ps C:List Q4) (h0:0<ps.length) (hC:∀c∈C,0<c.2.2.2∧InP ps (xyz c) c.2.2.2) (hi:∀p∈ps,∃c∈C,0<slk p (xyz c) c.2.2.2):Ins ps:=by
 have key:∀l:List Q4,0<l.length→(∀p∈l,p∈ps)→∃o W,0<W∧InP ps o W∧Str l o W:=by
  intro l
  induction l with
  |nil=>intro h;simp at h
  |cons p l ih=>
   intro _ hl
   obtain⟨c,hc,hs⟩:=hi p (hl p (by simp))
   obtain⟨hcW,hcI⟩:=hC c hc
   by_cases hn:0<l.length
   ·obtain⟨o,W,hW,hI,hS⟩:=ih hn (fun q hq=>hl q (List.mem_cons_of_mem _ hq))
    refine⟨(1*o.1+1*(xyz c).1,1*o.2.1+1*(xyz c).2.1,1*o.2.2+1*(xyz c).2.2),1*W+1*c.2.2.2,by omega,fun q hq=> ?_,fun q hq=> ?_⟩
    ·rw[Da];have:=hI q hq;have:=hcI q hq;omega
    ·rw[Da]
     have h1:=hcI q (hl q hq)
     rcases List.mem_cons.1 hq with rfl|hq
     ·have:=hI q (hl q (by simp));omega
     ·have:=hS q hq;omega
   ·have:l=[]:=List.eq_nil_of_length_eq_zero (by omega)
    subst this
    exact⟨xyz c,c.2.2.2,hcW,hcI,fun q hq=>by rw[List.mem_singleton]at hq;subst hq;exact hs⟩
 obtain⟨o,W,hW,_,hS⟩:=key ps h0 (fun p hp=>hp)
 exact⟨o,W,hW,hS⟩
structure Rep (q:Bod) (S:List Q4):Prop where
 sub:∀x W,0<W→(InP q.1 x W↔InP S x W)
 str:∀x W,Str S x W→Str q.1 x W
 bdd:Bdd q.1
 vert:Vert q.1 q.2
 inC:∀c∈q.2,0<c.2.2.2∧InP q.1 (xyz c) c.2.2.2
 ins:Ins S
theorem IE (p:Q4):∃g:Int,0<g∧∀x W,slk p x W=g*slk (eL p) x W:=by
 unfold eL
 split
 ·rename_i h
  unfold IV at h
  have d1:=aY [p.1,p.2.1,p.2.2.1,p.2.2.2] p.1 (by simp)
  have d2:=aY [p.1,p.2.1,p.2.2.1,p.2.2.2] p.2.1 (by simp)
  have d3:=aY [p.1,p.2.1,p.2.2.1,p.2.2.2] p.2.2.1 (by simp)
  have d4:=aY [p.1,p.2.1,p.2.2.1,p.2.2.2] p.2.2.2 (by simp)
  unfold dG
  generalize aU [p.1,p.2.1,p.2.2.1,p.2.2.2]=g at*
  have e1:=Int.mul_ediv_cancel' d1
  have e2:=Int.mul_ediv_cancel' d2
  have e3:=Int.mul_ediv_cancel' d3
  have e4:=Int.mul_ediv_cancel' d4
  refine⟨g,by omega,fun x W=> ?_⟩
  unfold slk bj nrm
  simp only
  grind
 ·exact⟨1,by omega,fun x W=>by omega⟩
theorem IF {g a b:Int} (hg:0<g) (h:a=g*b):(0<a↔0<b)∧(0≤a↔0≤b):=by
 subst h
 refine⟨⟨fun h=> ?_,fun h=>Int.mul_pos hg h⟩,⟨fun h=> ?_,fun h=>Int.mul_nonneg (Int.le_of_lt hg) h⟩⟩
 ·exact mu hg (by rw[Int.mul_comm];exact h)
 ·exact mT hg (by rw[Int.mul_comm];exact h)
theorem zW (p:Q4) (x:Q3) (W:Int):(0<slk p x W↔0<slk (eL p) x W)∧(0≤slk p x W↔0≤slk (eL p) x W):=by
 obtain⟨g,hg,h⟩:=IE p
 exact IF hg (h x W)
theorem Lz {S:List Q4} {x:Q4} {o y:Q3} {W V:Int} (hW:0<W) (ho:Str S o W) (hV:0<V) (hy:InP S y V) (hx:0<slk x y V):Ins (S++[x]):=by
 obtain⟨t,ht⟩:∃t:Int,t=1+(slk x o W).natAbs:=⟨_,rfl⟩
 refine⟨(1*o.1+t*y.1,1*o.2.1+t*y.2.1,1*o.2.2+t*y.2.2),1*W+t*V, ?_,fun q hq=> ?_⟩
 ·have:=Int.mul_pos (show 0<t by omega) hV;omega
 ·rw[Da]
  rcases List.mem_append.1 hq with hq|hq
  ·have h1:=ho q hq
   have h2:=Int.mul_nonneg (show 0≤t by omega) (hy q hq)
   omega
  ·rw[List.mem_singleton]at hq
   subst hq
   have h2:t*1≤t*slk q y V:=Int.mul_le_mul_of_nonneg_left hx (by omega)
   omega
theorem Ko {q:Bod} {S:List Q4} (h:Rep q S) (r:Q4) (o:Q3) (W:Int) (hW:0<W) (ho:InP q.1 o W):∃c∈q.2,0<c.2.2.2∧InP q.1 (xyz c) c.2.2.2∧slk r o W*c.2.2.2≤slk r (xyz c) c.2.2.2*W:=by
 obtain⟨c,hc,h1,h2,h3⟩:=Cq h.bdd h.vert (nrm r) o W hW ho
 refine⟨c,hc,h1,h2, ?_⟩
 unfold slk
 have e1:(r.2.2.2*W-bj (nrm r) o)*c.2.2.2=r.2.2.2*W*c.2.2.2-bj (nrm r) o*c.2.2.2:=Int.sub_mul _ _ _
 have e2:(r.2.2.2*c.2.2.2-bj (nrm r) (xyz c))*W=r.2.2.2*W*c.2.2.2-bj (nrm r) (xyz c)*W:=by grind
 omega
theorem IG {q:Bod} {S:List Q4} (h:Rep q S) (r:Q4) (o:Q3) (W:Int) (hW:0<W) (ho:InP q.1 o W):∃c∈q.2,0<c.2.2.2∧slk r (xyz c) c.2.2.2*W≤slk r o W*c.2.2.2:=by
 obtain⟨c,hc,h1,_,h3⟩:=Cq h.bdd h.vert (-(nrm r).1, -(nrm r).2.1, -(nrm r).2.2) o W hW ho
 refine⟨c,hc,h1, ?_⟩
 have hn:∀f:Q3,bj (-(nrm r).1, -(nrm r).2.1, -(nrm r).2.2) f= -(bj (nrm r) f):=fun f=>by unfold bj;grind
 rw[hn,hn,Int.neg_mul,Int.neg_mul]at h3
 unfold slk
 have e1:(r.2.2.2*W-bj (nrm r) o)*c.2.2.2=r.2.2.2*W*c.2.2.2-bj (nrm r) o*c.2.2.2:=Int.sub_mul _ _ _
 have e2:(r.2.2.2*c.2.2.2-bj (nrm r) (xyz c))*W=r.2.2.2*W*c.2.2.2-bj (nrm r) (xyz c)*W:=by grind
 omega
theorem Kp {p:Q4} {cs:List Q4} {c:Q4}:c∈Ob p cs↔c∈cs∧cw p c≤0:=by
 unfold Ob
 rw[(tw _ [] List.nodup_nil).2]
 simp
theorem mem_cutC {p:Q4} {b:Bod} {c:Q4}:c∈eA p b b.1.length 0↔(c∈b.2∧cw p c≤0)∨∃i k,i<b.1.length∧k<i∧c∈py p b.1 i k:=by
 unfold eA
 rw[(tw _ _ (by unfold Ob;exact(tw _ [] List.nodup_nil).1)).2,Kp]
 unfold Cu pK
 simp only[List.mem_append,List.mem_flatMap,List.mem_range,List.range_zero,List.flatMap_nil,List.not_mem_nil,or_false]
 constructor
 ·rintro(h|⟨i,hi,k,hk,h⟩)
  ·exact .inl h
  ·exact .inr ⟨i,k,hi,hk,h⟩
 ·rintro(h|⟨i,k,hi,hk,h⟩)
  ·exact .inl h
  ·exact .inr ⟨i,hi,k,hk,h⟩
theorem DS (p q r:Q4) (h0:bN p q r≠0):0<(gk p q r (bN p q r)).2.2.2:=by
 unfold gk
 exact(AZ _ _ _ _ h0).choose_spec.2.2.2.2.2
theorem FB {p:Q4} {ps:List Q4} {i k:Nat} {x:Q3} {W:Int} (hW:0<W) (hin:InP (ps++[p]) x W) (h0:bN p (bm ps i) (bm ps k)≠0) (zp:slk p x W=0) (zi:slk (bm ps i) x W=0) (zk:slk (bm ps k) x W=0):
  ∃c∈py p ps i k,SameAt c x W:=by
 have hs:=ri _ _ _ x W h0 zp zi zk
 have e:lD p (bm ps i) (bm ps k)=gk p (bm ps i) (bm ps k) (bN p (bm ps i) (bm ps k)):=by unfold lD;rw[if_neg h0]
 have ha:=rj hs hW hin
 have ho:okB p (bm ps i) (bm ps k)=true:=by unfold okB;simpa using h0
 refine⟨_, ?_,hs⟩
 unfold py
 rw[e,ho,ha]
 simp
theorem Kq {p:Q4} {ps:List Q4} {i k:Nat} {c:Q4} (h:c∈py p ps i k):0<c.2.2.2∧InP (ps++[p]) (xyz c) c.2.2.2:=by
 unfold py at h
 split at h
 ·rename_i hc
  rw[Bool.and_eq_true]at hc
  rw[List.mem_singleton]at h
  have h0:bN p (bm ps i) (bm ps k)≠0:=by have:=hc.1;unfold okB at this;simpa using this
  have e:lD p (bm ps i) (bm ps k)=gk p (bm ps i) (bm ps k) (bN p (bm ps i) (bm ps k)):=by unfold lD;rw[if_neg h0]
  have ha:=hc.2
  rw[←h]at ha
  refine⟨by rw[h,e];exact DS _ _ _ h0,fun q hq=>dL ha hq⟩
 ·cases h
theorem Kr {p:Q4} {ps:List Q4} {a b:Q4} (ha:a∈ps) (hb:b∈ps) (h0:bN p a b≠0) {x:Q3} {W:Int} (hW:0<W) (hin:InP (ps++[p]) x W) (zp:slk p x W=0) (za:slk a x W=0) (zb:slk b x W=0):
  ∃i k,i<ps.length∧k<i∧∃c∈py p ps i k,SameAt c x W:=by
 obtain⟨i,hi,rfl⟩:=jA ha
 obtain⟨k,hk,rfl⟩:=jA hb
 rcases Nat.lt_trichotomy i k with h1|h1|h1
 ·exact⟨k,i,hk,h1,FB hW hin (by rw[iH];omega) zp zb za⟩
 ·subst h1
  exact absurd (tr _ _) h0
 ·exact⟨i,k,hi,h1,FB hW hin h0 zp za zb⟩
theorem Ks {q:Bod} {p:Q4} (hV:Vert q.1 q.2):Vert (q.1++[p]) (eA p q q.1.length 0):=by
 intro a ha b hb c hc hd x W hW hin za zb zc
 have hp:=hin p (by simp)
 have via:∀u v:Q4,u∈q.1++[p]→v∈q.1++[p]→bN p u v≠0→slk p x W=0→slk u x W=0→slk v x W=0→∃c∈eA p q q.1.length 0,SameAt c x W:=fun u v hu hv h0 z1 z2 z3=>by
  have hu':u∈q.1:=by
   rcases List.mem_append.1 hu with h|h
   ·exact h
   ·rw[List.mem_singleton]at h;subst h;exact absurd (tq _ _) h0
  have hv':v∈q.1:=by
   rcases List.mem_append.1 hv with h|h
   ·exact h
   ·rw[List.mem_singleton]at h;subst h;exact absurd (tt _ _) h0
  obtain⟨i,k,hi,hk,c,hc,hs⟩:=Kr hu' hv' h0 hW hin z1 z2 z3
  exact⟨c,mem_cutC.2 (.inr ⟨i,k,hi,hk,hc⟩),hs⟩
 rcases List.mem_append.1 ha with ha'|ha'
 ·rcases List.mem_append.1 hb with hb'|hb'
  ·rcases List.mem_append.1 hc with hc'|hc'
   ·obtain⟨d,hd',hs⟩:=hV a ha' b hb' c hc' hd x W hW (fun q hq=>hin q (by simp[hq])) za zb zc
    refine⟨d,mem_cutC.2 (.inl ⟨hd', ?_⟩),hs⟩
    rw[th]
    have:=GQ hs hW p hp
    omega
   ·rw[List.mem_singleton]at hc'
    subst hc'
    exact via a b ha hb (by rw[gC,iH];omega) zc za zb
  ·rw[List.mem_singleton]at hb'
   subst hb'
   exact via a c ha hc (by rw[gC];omega) zb za zc
 ·rw[List.mem_singleton]at ha'
  subst ha'
  exact via b c hb hc hd za zb zc
theorem inP_snoc {S:List Q4} {x:Q4} {o:Q3} {W:Int}:InP (S++[x]) o W↔InP S o W∧0≤slk x o W:=by
 unfold InP
 simp only[List.mem_append,List.mem_singleton]
 constructor
 ·intro h;exact⟨fun p hp=>h p (.inl hp),h x (.inr rfl)⟩
 ·rintro⟨h1,h2⟩ p (hp|rfl)
  ·exact h1 p hp
  ·exact h2
theorem str_snoc {S:List Q4} {x:Q4} {o:Q3} {W:Int}:Str (S++[x]) o W↔Str S o W∧0<slk x o W:=by
 unfold Str
 simp only[List.mem_append,List.mem_singleton]
 constructor
 ·intro h;exact⟨fun p hp=>h p (.inl hp),h x (.inr rfl)⟩
 ·rintro⟨h1,h2⟩ p (hp|rfl)
  ·exact h1 p hp
  ·exact h2
theorem FC {L C S:List Q4} (hB:Bdd L) (hV:Vert L C) (hC:∀c∈C,0<c.2.2.2∧InP L (xyz c) c.2.2.2) (hsub:∀x W,0<W→(InP L x W↔InP S x W)) (hstr:∀x W,Str S x W→Str L x W) (hi:Ins S):Rep (jz L C,C) S:=by
 obtain⟨o,W0,hW0,ho⟩:=hi
 have hoL:=hstr o W0 ho
 have hm:=(BM L C).2
 have hn:∀x W,0<W→InP (jz L C) x W→InP L x W:=fun x W hW h=>CG C o W0 hW0 L [] hB hV hoL x W hW h
 exact{
  sub:=fun x W hW=>⟨fun h=>(hsub x W hW).1 (hn x W hW h),fun h p hp=>(hsub x W hW).2 h p (hm p hp)⟩
  str:=fun x W h p hp=>hstr x W h p (hm p hp)
  bdd:=Dx hB hn o W0 hW0 (fun p hp=>Int.le_of_lt (hoL p (hm p hp)))
  vert:=hV.sub hm hn
  inC:=fun c hc=>⟨(hC c hc).1,fun p hp=>(hC c hc).2 p (hm p hp)⟩
  ins:=⟨o,W0,hW0,ho⟩}
theorem LA {q:Bod} {S:List Q4} (h:Rep q S) (x:Q4):((qm q x).2=true→Rep (qm q x).1 (S++[x]))∧((qm q x).2=false→¬Ins (S++[x])):=by
 have hwi:wiA (eL x) q.2=false→¬Ins (S++[x]):=fun hw hI=>by
  obtain⟨o,W,hW,ho⟩:=hI
  obtain⟨h1,h2⟩:=str_snoc.1 ho
  obtain⟨c,hc,hcW,_,h3⟩:=Ko h (eL x) o W hW ((h.sub o W hW).2 h1.inP)
  have h4:=Int.mul_pos ((zW x o W).1.1 h2) hcW
  have h5:0<slk (eL x) (xyz c) c.2.2.2:=mu hW (by omega)
  unfold wiA at hw
  rw[List.any_eq_false]at hw
  exact hw c hc (by rw[th];simp;omega)
 have hwt:wiA (eL x) q.2=true→Ins (S++[x]):=fun hw=>by
  obtain⟨o,W,hW,ho⟩:=h.ins
  unfold wiA at hw
  rw[List.any_eq_true]at hw
  obtain⟨c,hc,hs⟩:=hw
  have hs:=of_decide_eq_true hs
  rw[th]at hs
  obtain⟨hcW,hcI⟩:=h.inC c hc
  exact Lz hW ho hcW ((h.sub _ _ hcW).1 hcI) ((zW x _ _).1.2 (by omega))
 unfold qm
 by_cases hw:wiA (eL x) q.2=true
 ·by_cases hb:beA (eL x) q.2=true
  ·rw[if_pos (by rw[hw,hb];rfl)]
   refine⟨fun _=> ?_,(fun h=>by cases h)⟩
   have hC:∀c∈eA (eL x) q q.1.length 0,0<c.2.2.2∧InP (q.1++[eL x]) (xyz c) c.2.2.2:=fun c hc=>by
    rcases mem_cutC.1 hc with⟨h1,h2⟩|⟨i,k,_,_,h1⟩
    ·rw[th]at h2
     exact⟨(h.inC c h1).1,inP_snoc.2 ⟨(h.inC c h1).2,by omega⟩⟩
    ·exact Kq h1
   exact FC (h.bdd.mono (fun p hp=>by simp[hp])) (Ks h.vert) hC
    (fun y W hW=>by rw[inP_snoc,inP_snoc,h.sub y W hW,(zW x y W).2])
    (fun y W hy=>by
     obtain⟨h1,h2⟩:=str_snoc.1 hy
     exact str_snoc.2 ⟨h.str y W h1,(zW x y W).1.1 h2⟩) (hwt hw)
  ·rw[if_neg (by rw[hw];simpa using hb)]
   refine⟨fun _=> ?_,fun h=> ?_⟩
   rotate_left
   ·simp only at h
    rw[hw]at h
    cases h
   have hall:∀y W,0<W→InP q.1 y W→0≤slk x y W:=fun y W hW hy=>by
    obtain⟨c,hc,hcW,h3⟩:=IG h (eL x) y W hW hy
    have h4:¬0<cw (eL x) c:=fun h5=>hb (by unfold beA;rw[List.any_eq_true];exact⟨c,hc,by simpa using h5⟩)
    rw[th]at h4
    have h5:=Int.mul_nonneg (show 0≤slk (eL x) (xyz c) c.2.2.2 by omega) (Int.le_of_lt hW)
    exact(zW x y W).2.2 (mT hcW (by omega))
   exact{
    sub:=fun y W hW=>⟨fun hy=>inP_snoc.2 ⟨(h.sub y W hW).1 hy,hall y W hW hy⟩,fun hy=>(h.sub y W hW).2 (inP_snoc.1 hy).1⟩
    str:=fun y W hy=>h.str y W (str_snoc.1 hy).1
    bdd:=h.bdd
    vert:=h.vert
    inC:=h.inC
    ins:=hwt hw}
 ·have hw':wiA (eL x) q.2=false:=by simpa using hw
  rw[if_neg (by rw[hw'];simp)]
  refine⟨fun h=> ?_,fun _=>hwi hw'⟩
  simp only at h
  rw[hw']at h
  cases h
theorem Kt (ps:List Q4):Vert ps (cd ps):=fun p hp q hq r hr hd x W hW hin z1 z2 z3=>by
 obtain⟨c,hc,hs⟩:=np ps p q r hp hq hr x W hW hin z1 z2 z3 hd
 exact⟨c,((lf ps).2 c).2 hc,hs⟩
theorem Ku (ps:List Q4):∀c∈cd ps,0<c.2.2.2∧InP ps (xyz c) c.2.2.2:=fun c hc=>by
 have hr:=((lf ps).2 c).1 hc
 obtain⟨p,_,q,_,r,_,h0,e⟩:=mx (Nat.le_refl _) hr
 exact⟨by rw[e];exact DS _ _ _ h0,fun q hq=>dL (ld hr) hq⟩
theorem Ql {ps:List Q4} (hB:Bdd ps):ps.all (gM (cd ps))=true↔Ins ps:=by
 have hne:0<ps.length:=by
  obtain⟨p,hp,_⟩:=hB (1,0,0) (by simp)
  exact List.length_pos_of_mem hp
 constructor
 ·intro h
  rw[List.all_eq_true]at h
  refine Mt ps (cd ps) hne (Ku ps) (fun p hp=> ?_)
  have h1:=h p hp
  unfold gM at h1
  rw[List.any_eq_true]at h1
  obtain⟨c,hc,h2⟩:=h1
  have h2:=of_decide_eq_true h2
  rw[mt,dp]at h2
  exact⟨c,hc,h2⟩
 ·rintro⟨o,W,hW,ho⟩
  rw[List.all_eq_true]
  intro p hp
  obtain⟨c,hc,hs⟩:=od ps hB o W hW ho p hp
  unfold gM
  rw[List.any_eq_true]
  exact⟨c,((lf ps).2 c).2 hc,by simpa using hs⟩
def go3 (x w:Q3) (T:Int):Q3:=(x.1+T*w.1,x.2.1+T*w.2.1,x.2.2+T*w.2.2)
def Hit (P Q:List Q4) (w:Q3):Prop:=∃x:Q3,∃W T:Int,0<W∧0≤T∧Str P x W∧Str Q (go3 x w T) W
def Dy (w:Q3):Q3:=(-w.1, -w.2.1, -w.2.2)
theorem Kv (x w:Q3) (T:Int):go3 (go3 x w T) (Dy w) T=x:=by
 obtain⟨a,b,c⟩:=x
 unfold go3 Dy
 simp only[Prod.mk.injEq]
 refine⟨?_, ?_, ?_⟩<;>grind
theorem GR {P Q:List Q4} {w:Q3} (h:Hit P Q w):Hit Q P (Dy w):=by
 obtain⟨x,W,T,hW,hT,h1,h2⟩:=h
 exact⟨go3 x w T,W,T,hW,hT,h2,by rw[Kv];exact h1⟩
theorem Dz (w:Q3):Dy (Dy w)=w:=by obtain⟨a,b,c⟩:=w;simp[Dy]
theorem hit_sym {P Q:List Q4} {w:Q3}:Hit P Q w↔Hit Q P (Dy w):=⟨GR,fun h=>by have:=GR h;rwa [Dz]at this⟩
theorem Eu (p:Q4) (x w:Q3) (W T:Int):slk p (go3 x w T) W=slk p x W-T*bj (nrm p) w:=by unfold slk go3 bj;grind
theorem Ev (x y:Q4) (w z:Q3) (W:Int):slk (kv x y w) z W= -(bj (nrm y) w)*slk x z W+bj (nrm x) w*slk y z W:=by
 unfold kv
 generalize bj (nrm y) w=a
 generalize bj (nrm x) w=b
 unfold slk bj nrm
 simp only
 grind
def IH (P:List Q4) (w:Q3):List Q4:=P.filter fun x=>decide (bj (nrm x) w≤0)
def Kw (P:List Q4) (w:Q3):List Q4:=(cr P w).flatMap fun x=>((bc P w).filter fun y=>decide (nrm (kv x y w)≠(0,0,0))).map fun y=>kv x y w
theorem LB (q:Option Bod) (w:Q3) (l:List Q4):l.foldl (zn w) q=(IH l w).foldl BU q:=by
 unfold IH
 induction l generalizing q with
 |nil=>rfl
 |cons x l ih=>
  rw[List.foldl_cons,ih,List.filter_cons]
  unfold zn
  split
  ·rw[if_pos (decide_eq_true ‹_›)];rfl
  ·rw[if_neg (by rw[decide_eq_true_eq];assumption)]
theorem LC (q:Option Bod) (x:Q4) (w:Q3) (l:List Q4):l.foldl (BW x w) q=((l.filter fun y=>decide (nrm (kv x y w)≠(0,0,0))).map fun y=>kv x y w).foldl BU q:=by
 induction l generalizing q with
 |nil=>rfl
 |cons y l ih=>
  rw[List.foldl_cons,ih,List.filter_cons]
  unfold BW
  by_cases h:nrm (kv x y w)=(0,0,0)
  ·rw[if_pos h,if_neg (by simpa using h)]
  ·rw[if_neg h,if_pos (by simpa using h)];rfl
theorem LD (q:Option Bod) (B:List Q4) (w:Q3) (l:List Q4):l.foldl (fun q x=>B.foldl (BW x w) q) q=(l.flatMap fun x=>(B.filter fun y=>decide (nrm (kv x y w)≠(0,0,0))).map fun y=>kv x y w).foldl BU q:=by
 induction l generalizing q with
 |nil=>rfl
 |cons x l ih=>rw[List.foldl_cons,ih,List.flatMap_cons,List.foldl_append,LC]
theorem FD (p q:Bod) (w:Q3):DV p q w=(IH p.1 w++Kw p.1 w).foldl BU (some q):=by
 unfold DV Kw
 rw[LD,LB,List.foldl_append]
theorem II (l:List Q4):l.foldl BU none=none:=by
 induction l with
 |nil=>rfl
 |cons x l ih=>exact ih
theorem Ins.pre {S l:List Q4} (h:Ins (S++l)):Ins S:=by
 obtain⟨o,W,hW,h⟩:=h
 exact⟨o,W,hW,fun p hp=>h p (by simp[hp])⟩
theorem Kx (l:List Q4):∀(q:Bod) (S:List Q4),Rep q S→((l.foldl BU (some q)).isSome=true↔Ins (S++l)):=by
 induction l with
 |nil=>intro q S h;rw[List.append_nil];exact⟨fun _=>h.ins,fun _=>rfl⟩
 |cons x l ih=>
  intro q S h
  obtain⟨h1,h2⟩:=LA h x
  rw[List.foldl_cons]
  show(l.foldl BU (if(qm q x).2 then some (qm q x).1 else none)).isSome=true↔_
  cases hc:(qm q x).2 with
  |true=>
   rw[if_pos rfl,ih _ _ (h1 hc),List.append_assoc]
   rfl
  |false=>
   rw[if_neg (by simp),II]
   refine⟨fun h=>by simp at h,fun h=>absurd ?_ (h2 hc)⟩
   rw[show S++x::l=(S++[x])++l by simp]at h
   exact h.pre
theorem IJ (f:Q4→Int) (l:List Q4):∃K:Int,0<K∧∀p∈l, -K<f p:=by
 induction l with
 |nil=>exact⟨1,by omega,fun _ h=>by cases h⟩
 |cons x l ih=>
  obtain⟨K,hK,h⟩:=ih
  refine⟨K+(f x).natAbs+1,by omega,fun p hp=> ?_⟩
  rcases List.mem_cons.1 hp with rfl|hp
  ·omega
  ·have:=h p hp;omega
theorem IK (p:Q4) (x:Q3) (W k:Int):slk p (k*x.1,k*x.2.1,k*x.2.2) (k*W)=k*slk p x W:=by unfold slk bj;grind
theorem LE {P Q:List Q4} {w:Q3} (hw:w≠(0,0,0)) (hB:Bdd P) (hI:Ins P):Ins (Q++(IH P w++Kw P w))↔Hit P Q w:=by
 constructor
 ·rintro⟨y,W,hW,hS⟩
  have hQ:Str Q y W:=fun p hp=>hS p (by simp[hp])
  have h1:∀p∈P,bj (nrm p) w≤0→0<slk p y W:=fun p hp h=>hS p (by
   unfold IH
   simp only[List.mem_append,List.mem_filter,decide_eq_true_eq]
   exact .inr (.inl ⟨hp,h⟩))
  have h2:∀a∈P,∀b∈P,0<bj (nrm a) w→bj (nrm b) w<0→0<slk (kv a b w) y W:=fun a ha b hb pa pb=>by
   by_cases h0:nrm (kv a b w)=(0,0,0)
   ·obtain⟨o,W0,hW0,ho⟩:=hI
    have e:=Ev a b w o W0
    have pos:0<slk (kv a b w) o W0:=by
     rw[e]
     have u1:=Int.mul_pos (show 0< -(bj (nrm b) w) by omega) (ho a ha)
     have u2:=Int.mul_pos pa (ho b hb)
     omega
    have z:∀x V,slk (kv a b w) x V=(kv a b w).2.2.2*V:=fun x V=>by unfold slk;rw[h0];simp[bj]
    rw[z]at pos ⊢
    exact Int.mul_pos (mu hW0 pos) hW
   ·refine hS _ ?_
    unfold Kw cr bc
    simp only[List.mem_append,List.mem_flatMap,List.mem_map,List.mem_filter,decide_eq_true_eq]
    exact .inr (.inr ⟨a,⟨ha,pa⟩,b,⟨⟨hb,pb⟩,h0⟩,rfl⟩)
  obtain⟨b,hb,tb,hm⟩:=nl (fun p=>slk p y W) (fun p=> -(bj (nrm p) w)) P (by
   obtain⟨p,hp,h⟩:=hB (Dy w) (fun h=>hw (by rw[←Dz w,h];rfl))
   exact⟨p,hp,by unfold bj Dy at h;unfold bj;grind⟩)
  have sb:=h1 b hb (by omega)
  obtain⟨K,hK,hk⟩:=IJ (fun p=>slk p y W) P
  refine⟨((K* -(bj (nrm b) w)+1)*y.1-K*slk b y W*w.1,(K* -(bj (nrm b) w)+1)*y.2.1-K*slk b y W*w.2.1,(K* -(bj (nrm b) w)+1)*y.2.2-K*slk b y W*w.2.2),(K* -(bj (nrm b) w)+1)*W,K*slk b y W, ?_,Int.mul_nonneg (by omega) (by omega),fun p hp=> ?_,fun q hq=> ?_⟩
  ·exact Int.mul_pos (by have:=Int.mul_pos hK tb;omega) hW
  ·have e:slk p ((K* -(bj (nrm b) w)+1)*y.1-K*slk b y W*w.1,(K* -(bj (nrm b) w)+1)*y.2.1-K*slk b y W*w.2.1,(K* -(bj (nrm b) w)+1)*y.2.2-K*slk b y W*w.2.2) ((K* -(bj (nrm b) w)+1)*W)=K*(-(bj (nrm b) w)*slk p y W+slk b y W*bj (nrm p) w)+slk p y W:=by
    generalize bj (nrm b) w=t
    generalize slk b y W=s
    unfold slk bj
    grind
   rw[e]
   by_cases hp0:0<bj (nrm p) w
   ·have h3:=h2 p hp b hb hp0 (by omega)
    rw[Ev]at h3
    have e2:slk b y W*bj (nrm p) w=bj (nrm p) w*slk b y W:=Int.mul_comm _ _
    rw[e2]
    have h4:K*1≤K*(-(bj (nrm b) w)*slk p y W+bj (nrm p) w*slk b y W):=Int.mul_le_mul_of_nonneg_left (by omega) (by omega)
    have h5:=hk p hp
    omega
   ·have h3:=h1 p hp (by omega)
    have h4:0≤ -(bj (nrm b) w)*slk p y W+slk b y W*bj (nrm p) w:=by
     by_cases hz:bj (nrm p) w=0
     ·rw[hz,Int.mul_zero,Int.add_zero]
      exact Int.mul_nonneg (by omega) (by omega)
     ·have h5:=hm p hp (by omega)
      have e1:slk b y W* -(bj (nrm p) w)= -(slk b y W*bj (nrm p) w):=Int.mul_neg _ _
      have e2:slk p y W* -(bj (nrm b) w)= -(bj (nrm b) w)*slk p y W:=Int.mul_comm _ _
      omega
    have h5:=Int.mul_nonneg (show 0≤K by omega) h4
    omega
  ·have e:go3 ((K* -(bj (nrm b) w)+1)*y.1-K*slk b y W*w.1,(K* -(bj (nrm b) w)+1)*y.2.1-K*slk b y W*w.2.1,(K* -(bj (nrm b) w)+1)*y.2.2-K*slk b y W*w.2.2) w (K*slk b y W)=((K* -(bj (nrm b) w)+1)*y.1,(K* -(bj (nrm b) w)+1)*y.2.1,(K* -(bj (nrm b) w)+1)*y.2.2):=by
    unfold go3
    simp only[Prod.mk.injEq]
    refine⟨?_, ?_, ?_⟩<;>omega
   rw[e,IK]
   exact Int.mul_pos (by have:=Int.mul_pos hK tb;omega) (hQ q hq)
 ·rintro⟨x,W,T,hW,hT,hP,hQ⟩
  refine⟨go3 x w T,W,hW,fun p hp=> ?_⟩
  rcases List.mem_append.1 hp with hp|hp
  ·exact hQ p hp
  ·rcases List.mem_append.1 hp with hp|hp
   ·unfold IH at hp
    simp only[List.mem_filter,decide_eq_true_eq]at hp
    rw[Eu]
    have h1:=hP p hp.1
    have h2:=Int.mul_nonneg hT (show 0≤ -(bj (nrm p) w) by omega)
    rw[Int.mul_neg]at h2
    omega
   ·unfold Kw cr bc at hp
    simp only[List.mem_flatMap,List.mem_map,List.mem_filter,decide_eq_true_eq]at hp
    obtain⟨a,⟨ha,pa⟩,b,⟨⟨hb,pb⟩, -⟩,rfl⟩:=hp
    have e:slk (kv a b w) (go3 x w T) W= -(bj (nrm b) w)*slk a x W+bj (nrm a) w*slk b x W:=by
     rw[Ev,Eu,Eu]
     generalize bj (nrm a) w=u
     generalize bj (nrm b) w=v
     grind
    rw[e]
    have u1:=Int.mul_pos (show 0< -(bj (nrm b) w) by omega) (hP a ha)
    have u2:=Int.mul_pos pa (hP b hb)
    omega
theorem Mu {A S:List Q4} (h:∀x W,0<W→InP A x W→InP S x W) (hI:Ins S) {x:Q3} {W:Int} (hW:0<W) (hs:Str A x W):Str S x W:=by
 intro p hp
 by_cases h0:nrm p=(0,0,0)
 ·obtain⟨o,W0,hW0,ho⟩:=hI
  have z:∀x V,slk p x V=p.2.2.2*V:=fun x V=>by unfold slk;rw[h0];simp[bj]
  have pos:=ho p hp
  rw[z]at pos ⊢
  exact Int.mul_pos (mu hW0 pos) hW
 ·obtain⟨K,hK,hk⟩:=CF (nrm p) x W A hs
  have h1:=h _ _ (Int.mul_pos hK hW) (hk K (Int.le_refl _)).inP p hp
  rw[rh]at h1
  have h2:=ku h0
  exact mu hK (by rw[Int.mul_comm];omega)
theorem Rep.strOf {q:Bod} {S:List Q4} (h:Rep q S) {x:Q3} {W:Int} (hW:0<W):Str q.1 x W↔Str S x W:=
 ⟨Mu (fun x W hW=>(h.sub x W hW).1) h.ins hW,h.str x W⟩
theorem Ky {P P' Q Q':List Q4} {w:Q3} (h1:∀x W,0<W→Str P x W→Str P' x W) (h2:∀x W,0<W→Str Q x W→Str Q' x W) (h:Hit P Q w):Hit P' Q' w:=by
 obtain⟨x,W,T,hW,hT,a,b⟩:=h
 exact⟨x,W,T,hW,hT,h1 _ _ hW a,h2 _ _ hW b⟩
theorem MK (i:Nat) (c:Q4) (h:0<c.2.2.2):flA i c*c.2.2.2≤axA i c:=by unfold flA;exact Int.ediv_mul_le _ (by omega)
theorem ML (i:Nat) (c:Q4) (h:0<c.2.2.2):axA i c≤clA i c*c.2.2.2:=by
 unfold clA flA
 have h1:=Int.emod_add_mul_ediv (axA i c) c.2.2.2
 have h2:=Int.emod_lt_of_pos (axA i c) h
 have e:axA i c / c.2.2.2*c.2.2.2=c.2.2.2*(axA i c / c.2.2.2):=Int.mul_comm _ _
 split
 ·omega
 ·rw[Int.add_mul];omega
theorem Cr (f:Q4→Int) (l:List Q4):∀m:Int,m≤l.foldl (fun m y=>max m (f y)) m∧∀c∈l,f c≤l.foldl (fun m y=>max m (f y)) m:=by
 induction l with
 |nil=>exact fun m=>⟨Int.le_refl _,fun _ h=>by cases h⟩
 |cons x l ih=>
  intro m
  obtain⟨h1,h2⟩:=ih (max m (f x))
  refine⟨by rw[List.foldl_cons];omega,fun c hc=> ?_⟩
  rw[List.foldl_cons]
  rcases List.mem_cons.1 hc with rfl|hc
  ·omega
  ·exact h2 c hc
theorem Cs (f:Q4→Int) (l:List Q4):∀m:Int,l.foldl (fun m y=>min m (f y)) m≤m∧∀c∈l,l.foldl (fun m y=>min m (f y)) m≤f c:=by
 induction l with
 |nil=>exact fun m=>⟨Int.le_refl _,fun _ h=>by cases h⟩
 |cons x l ih=>
  intro m
  obtain⟨h1,h2⟩:=ih (min m (f x))
  refine⟨by rw[List.foldl_cons];omega,fun c hc=> ?_⟩
  rw[List.foldl_cons]
  rcases List.mem_cons.1 hc with rfl|hc
  ·omega
  ·exact h2 c hc
theorem LF (i:Nat) {C:List Q4} {c:Q4} (h:c∈C):clA i c≤bt i C:=by
 cases C with
 |nil=>cases h
 |cons x l=>
  unfold bt
  rcases List.mem_cons.1 h with rfl|h
  ·exact(Cr _ l _).1
  ·exact(Cr _ l _).2 c h
theorem Mv (i:Nat) {C:List Q4} {c:Q4} (h:c∈C):eT i C≤flA i c:=by
 cases C with
 |nil=>cases h
 |cons x l=>
  unfold eT
  rcases List.mem_cons.1 h with rfl|h
  ·exact(Cs _ l _).1
  ·exact(Cs _ l _).2 c h
def ax3 (i:Nat) (x:Q3):Int:=if i=0 then x.1 else if i=1 then x.2.1 else x.2.2
def CP (i:Nat) (s:Int):Q3:=(if i=0 then s else 0,if i=0 then 0 else if i=1 then s else 0,if i=0 then 0 else if i=1 then 0 else s)
theorem Ct (i:Nat) (s:Int) (x:Q3):bj (CP i s) x=s*ax3 i x:=by
 unfold bj CP ax3
 by_cases h0:i=0
 ·simp[h0]
 ·by_cases h1:i=1
  ·simp[h1]
  ·simp[h0,h1]
theorem GS (i:Nat) (c:Q4):ax3 i (xyz c)=axA i c:=rfl
theorem GT {q:Bod} {S:List Q4} (h:Rep q S) (i:Nat) {x:Q3} {W:Int} (hW:0<W) (hx:InP S x W):ax3 i x≤bt i q.2*W:=by
 obtain⟨c,hc,c0, -,h3⟩:=Cq h.bdd h.vert (CP i (-1)) x W hW ((h.sub x W hW).2 hx)
 rw[Ct,Ct,GS]at h3
 have h4:=ML i c c0
 have h5:=LF i hc
 have h6:axA i c*W≤clA i c*c.2.2.2*W:=Int.mul_le_mul_of_nonneg_right h4 (by omega)
 have h7:ax3 i x*c.2.2.2≤clA i c*W*c.2.2.2:=by
  have e1: -1*axA i c*W= -(axA i c*W):=by grind
  have e2: -1*ax3 i x*c.2.2.2= -(ax3 i x*c.2.2.2):=by grind
  have e3:clA i c*c.2.2.2*W=clA i c*W*c.2.2.2:=by grind
  omega
 have h8:=Int.le_of_mul_le_mul_right h7 c0
 exact Int.le_trans h8 (Int.mul_le_mul_of_nonneg_right h5 (by omega))
theorem Kz {q:Bod} {S:List Q4} (h:Rep q S) (i:Nat) {x:Q3} {W:Int} (hW:0<W) (hx:InP S x W):eT i q.2*W≤ax3 i x:=by
 obtain⟨c,hc,c0, -,h3⟩:=Cq h.bdd h.vert (CP i 1) x W hW ((h.sub x W hW).2 hx)
 rw[Ct,Ct,GS,Int.one_mul,Int.one_mul]at h3
 have h4:=MK i c c0
 have h5:=Mv i hc
 have h6:flA i c*c.2.2.2*W≤axA i c*W:=Int.mul_le_mul_of_nonneg_right h4 (by omega)
 have h7:flA i c*W*c.2.2.2≤ax3 i x*c.2.2.2:=by
  have e3:flA i c*c.2.2.2*W=flA i c*W*c.2.2.2:=by grind
  omega
 have h8:=Int.le_of_mul_le_mul_right h7 c0
 exact Int.le_trans (Int.mul_le_mul_of_nonneg_right h5 (by omega)) h8
theorem GU (i:Nat) (x w:Q3) (T:Int):ax3 i (go3 x w T)=ax3 i x+T*stA i w:=by
 unfold ax3 go3 stA
 split
 ·rfl
 ·split<;>rfl
theorem KA (i:Nat) (x d:Q3) (k:Int):ax3 i (mv x d k 1)=k*ax3 i x+ax3 i d:=by
 unfold ax3 mv
 split<;>(try split)<;>simp only[Int.one_mul]
theorem FE (i:Nat) (s:Int):ax3 i (CP i s)=s:=by
 unfold ax3 CP
 by_cases h0:i=0
 ·simp[h0]
 ·by_cases h1:i=1
  ·simp[h1]
  ·simp[h0,h1]
theorem Ew {p q:Bod} {S S':List Q4} (hp:Rep p S) (hq:Rep q S') {w:Q3} (i:Nat) (h:ko p.2 q.2 w i=true):¬Hit S S' w:=by
 rintro⟨x,W,T,hW,hT,hP,hQ⟩
 unfold ko at h
 simp only[Bool.or_eq_true,Bool.and_eq_true,decide_eq_true_eq]at h
 have hin:∀{k:Int} {z:Q3} {V:Int},Str S' z V→InP S' z V:=fun h=>h.inP
 rcases h with⟨h1,h2⟩|⟨h1,h2⟩
 ·have a1:=GT hp i hW hP.inP
  obtain⟨K,hK,hk⟩:=CF (CP i (-1)) (go3 x w T) W S' hQ
  have a2:=Kz hq i (Int.mul_pos hK hW) (hk K (Int.le_refl _)).inP
  rw[KA,FE,GU]at a2
  have a3:T*stA i w≤0:=by have:=Int.mul_nonneg hT (show 0≤ -(stA i w) by omega);rw[Int.mul_neg]at this;omega
  have a4:bt i p.2*W≤eT i q.2*W:=Int.mul_le_mul_of_nonneg_right h2 (by omega)
  have a5:K*(ax3 i x+T*stA i w)≤K*(eT i q.2*W):=Int.mul_le_mul_of_nonneg_left (by omega) (by omega)
  have e:eT i q.2*(K*W)=K*(eT i q.2*W):=by grind
  omega
 ·have a1:=Kz hp i hW hP.inP
  obtain⟨K,hK,hk⟩:=CF (CP i 1) (go3 x w T) W S' hQ
  have a2:=GT hq i (Int.mul_pos hK hW) (hk K (Int.le_refl _)).inP
  rw[KA,FE,GU]at a2
  have a3:0≤T*stA i w:=Int.mul_nonneg hT h1
  have a4:bt i q.2*W≤eT i p.2*W:=Int.mul_le_mul_of_nonneg_right h2 (by omega)
  have a5:K*(bt i q.2*W)≤K*(ax3 i x+T*stA i w):=Int.mul_le_mul_of_nonneg_left (by omega) (by omega)
  have e:bt i q.2*(K*W)=K*(bt i q.2*W):=by grind
  omega
theorem DA {p q:Bod} {S S':List Q4} (hp:Rep p S) (hq:Rep q S') {w:Q3} (hw:w≠(0,0,0)):eS p q w=true↔Hit S S' w:=by
 have hIp:Ins p.1:=by obtain⟨o,W,hW,ho⟩:=hp.ins;exact⟨o,W,hW,hp.str _ _ ho⟩
 have key:(DV p q w).isSome=true↔Hit S S' w:=by
  rw[FD,Kx _ q S' hq,LE hw hp.bdd hIp]
  exact⟨Ky (fun x W hW=>(hp.strOf hW).1) (fun _ _ _ h=>h),Ky (fun x W hW=>(hp.strOf hW).2) (fun _ _ _ h=>h)⟩
 unfold eS
 split
 ·rename_i hf
  unfold CQ at hf
  simp only[Bool.or_eq_true]at hf
  refine⟨fun h=>(by cases h),fun h=> ?_⟩
  rcases hf with hf|hf|hf
  ·exact absurd h (Ew hp hq 0 hf)
  ·exact absurd h (Ew hp hq 1 hf)
  ·exact absurd h (Ew hp hq 2 hf)
 ·exact key
theorem LH {a b:Bool} {P:Prop} (h1:a=true↔P) (h2:b=true↔P):a=b:=by
 cases a<;>cases b<;>simp_all
theorem Gt {p q:Bod} {S S':List Q4} (hp:Rep p S) (hq:Rep q S') {w:Q3} (hw:w≠(0,0,0)):eS q p (Dy w)=eS p q w:=
 LH ((DA hq hp (fun h=>hw (by rw[←Dz w,h];rfl))).trans hit_sym.symm) (DA hp hq hw)
theorem KB {ps:List Q4} (hB:Bdd ps) (hI:Ins ps):Rep (bp ps) ps:=
 FC hB (Kt ps) (Ku ps) (fun _ _ _=>Iff.rfl) (fun _ _ h=>h) hI
theorem FF {ps:List Q4} (h:bK ps=0):Bdd ps∧Ins ps:=by
 unfold bK at h
 split at h
 ·cases h
 split at h
 ·contradiction
 split at h
 ·cases h
 rename_i hb
 split at h
 ·cases h
 rename_i hs
 have hb':bx ps=true:=by simpa using hb
 have hs':fh ps (aS ps)=true:=by simpa using hs
 refine⟨FA ps hb', ?_⟩
 unfold fh at hs'
 rw[Bool.and_eq_true,decide_eq_true_eq,List.all_eq_true]at hs'
 refine Mt ps (cd ps) hs'.2 (Ku ps) (fun p hp=> ?_)
 have h1:=hs'.1 p hp
 unfold gM at h1
 rw[List.any_eq_true]at h1
 obtain⟨c,hc,h2⟩:=h1
 have h2:=of_decide_eq_true h2
 rw[mt,dp]at h2
 exact⟨c,((lf ps).2 c).2 (pq hc),h2⟩
theorem FG {ps:List Q4} (h:bK ps=0):Rep (bp ps) ps:=KB (FF h).1 (FF h).2
theorem IL {css:List (List Q4)} (h:aa css=0):∀c∈css,bK c=0:=by
 unfold aa at h
 split at h
 ·cases h
 ·exact Dr h
theorem KC {α β:Type} (l:List α) (m:List β) (f:α→β→Bool):(l.any fun a=>m.any fun b=>f a b)=m.any fun b=>l.any fun a=>f a b:=by
 rw[Bool.eq_iff_iff]
 simp only[List.any_eq_true]
 constructor
 ·rintro⟨a,ha,b,hb,h⟩;exact⟨b,hb,a,ha,h⟩
 ·rintro⟨b,hb,a,ha,h⟩;exact⟨a,ha,b,hb,h⟩
theorem Gu {α β:Type} {l:List α} {m:List β} {f g:α→β→Bool} (h:∀a∈l,∀b∈m,f a b=g a b):(l.any fun a=>m.any fun b=>f a b)=l.any fun a=>m.any fun b=>g a b:=by
 rw[Bool.eq_iff_iff]
 simp only[List.any_eq_true]
 constructor
 ·rintro⟨a,ha,b,hb,e⟩;exact⟨a,ha,b,hb,by rw[←h a ha b hb];exact e⟩
 ·rintro⟨a,ha,b,hb,e⟩;exact⟨a,ha,b,hb,by rw[h a ha b hb];exact e⟩
theorem KD {p q:List (List Q4)} (hp:∀c∈p,bK c=0) (hq:∀c∈q,bK c=0) {w:Q3} (hw:w≠(0,0,0)):BT (q.map bp) (p.map bp) (Dy w)=BT (p.map bp) (q.map bp) w:=by
 unfold BT
 simp only[List.any_map,Function.comp_def]
 rw[KC]
 exact Gu fun c hc d hd=>Gt (FG (hp c hc)) (FG (hq d hd)) hw
theorem DT (l:List (List (List Q4))) (i:Nat):(l.map (·.map bp)).getD i []=(l.getD i []).map bp:=by
 simp only[List.getD,List.getElem?_map]
 cases l[i]? <;>rfl
theorem KE {l:List (List (List Q4))} (h:eB l=0):∀v∈ways26,∀i k,Cb (l.map (·.map bp)) (-v.1, -v.2.1, -v.2.2) k i=Cb (l.map (·.map bp)) v i k:=by
 intro v hv i k
 have hm:∀i,∀c∈l.getD i [],bK c=0:=fun i c hc=>by
  by_cases hi:i<l.length
  ·rw[show l.getD i []=l[i] by simp[List.getD,hi]]at hc
   exact IL ((sq h).2 _ (List.getElem_mem hi)) c hc
  ·rw[show l.getD i []=[] by simp[List.getD,hi]]at hc
   cases hc
 unfold Cb
 rw[DT,DT]
 exact KD (hm i) (hm k) (by rintro rfl;have:=(Ef _ hv).2.2.2;simp at this)
end
end Go.Proofs.YtleamcmbhioedaaGreatDoor
