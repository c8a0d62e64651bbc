/- texts: B7 B8 J1 J2 J3 J4 J5 J6 J7. -/
import Derived.Test.YtokhkhnofkcalaaGreatDoorKZS12
namespace Go.Proofs.YtokhkhnofkcalaaGreatDoor
set_option maxHeartbeats 8000000
set_option linter.unusedSimpArgs false
set_option linter.unusedVariables false
section
open Go.RowKit Go.Shelf
attribute [local go_sem] Ext.cell Ext.frozen
def cJ:List Q4→Int
 | []=>0
 |p::ps=>if bP p=0 then cJ ps else bP p
theorem nV (ps:List Q4) (k:Nat) (hk:k<ps.length) (h:∀i (hi:i<ps.length),i<k→bP ps[i]=0) (hx:bP ps[k]≠0):cJ ps=bP ps[k]:=by
 induction ps generalizing k with
 |nil=>simp at hk
 |cons p ps ih=>
  cases k with
  |zero=>simp only[List.getElem_cons_zero]at hx;simp[cJ,hx]
  |succ k=>
   have h0:=h 0 (by simp) (by omega)
   simp only[List.getElem_cons_zero]at h0
   simp only[cJ,h0,if_true,List.getElem_cons_succ]
   exact ih k (by simpa using hk) (fun i hi hik=>by have:=h (i+1) (by simpa using hi) (by omega);simpa using this) (by simpa using hx)
theorem iQ (ps:List Q4) (h:∀i (hi:i<ps.length),bP ps[i]=0):cJ ps=0:=by
 induction ps with
 |nil=>rfl
 |cons p ps ih=>
  have h0:=h 0 (by simp)
  simp only[List.getElem_cons_zero]at h0
  simp only[cJ,h0,if_true]
  exact ih (fun i hi=>by have:=h (i+1) (by simpa using hi);simpa using this)
theorem iR (p:Q4) (h:bP p=0):cI p:=by
 unfold bP at h
 split at h
 ·cases h
 ·rename_i h1
  split at h
  ·cases h
  ·rename_i h2
   unfold cI bI
   omega
def kT (cs:List Q4):Bool:= !(cs.any fun c=> !lw c)
def bK (ps:List Q4):Int:=
 if 16<ps.length then 8 else if cJ ps≠0 then cJ ps else if dc ps=false then 14 else
 if fh ps (aS ps)=false then 13 else if kT (aS ps)=false then 2 else 0
theorem kU {l:List Q4} {x:Q4} (h:x∈Lib.compact l):x∈l:=by
 simp only[Lib.compact,Lib.compactUpTo,List.mem_map,List.mem_filter,List.mem_range]at h
 obtain⟨i,⟨hi,_⟩,rfl⟩:=h
 rw[getElem!_pos l.toArray i (by simpa using hi)]
 simp
theorem pq {ps:List Q4} {c:Q4} (h:c∈aS ps):c∈raw ps ps.length:=by
 have:=kU h
 simpa [ed]using this
theorem ml (ps:List Q4) (h:∀p∈ps,bI p):∀c∈aS ps,dI c:=fun c hc=>iD ps h ps.length (Nat.le_refl _) c (pq hc)
theorem eR (l:List Q4):(Lib.compact l).length≤l.length:=mf _ _
theorem kV (ps:List Q4) (h:ps.length≤64):(aS ps).length≤262144:=by
 have h1:=eR (ed (raw ps ps.length))
 rw[ni]at h1
 have h2:=jp ps ps.length h
 unfold aS
 omega
theorem nW (c:Q4) (w:World) (hc:fD c):Calls Tryz.prog 161 #[v4 c] w (Ret w (.bool (!lw c))):=by
 obtain⟨x,y,z,q⟩:=c
 simp only[fD]at hc
 have hs:=fun W=>Lib.hid (qG x y z q W (by omega))
 generalize lw (x,y,z,q)=r at*
 go_enter Tryz.func161,Tryz.ntmps161
 go_wp2_with fail
 refine((hs _).out).mono ?_
 rintro e w1 ⟨rfl,hb1⟩
 go_wp2
 go_ret
 exact⟨rfl,ae bel hb1⟩
theorem Bx:∀args w,(callFunc 161 args).run Tryz.prog w= .ok (.enter 161 args) w:=enters_of Tryz.func161 (by kernel_rfl) rfl
theorem sY (c:Q4) (w:World) (hc:fD c):gH Tryz.prog 161 #[] w (v4 c) (!lw c):=fun _ _=>nW c _ hc
theorem Q4s.far {w:World} {v:Value} {cs:List Q4} (h:Q4s w v cs) (g i:Nat) (u:Value) (hg:∀j k x,w.cell? ⟨g,j,none⟩≠some (.int k x)):Q4s (w.setCell ⟨g,i,none⟩ u) v cs:=by
 obtain⟨a,n,c,rfl,hn,hc,hx⟩:=h
 refine⟨a,n,c,rfl,hn,hc,fun h0=> ?_⟩
 obtain⟨b,off,rfl,hi⟩:=hx h0
 refine⟨b,off,rfl,fun j hj=> ?_⟩
 obtain⟨h1,h2,h3,h4⟩:=hi j hj
 have hne:g≠b:=by rintro rfl;exact hg _ _ _ h1
 have key:∀o,(w.setCell ⟨g,i,none⟩ u).cell? ⟨b,o,none⟩=w.cell? ⟨b,o,none⟩:=fun o=>World.cell?_setCell_other w ⟨g,i,none⟩ ⟨b,o,none⟩ u (fun e=>by cases e;exact hne rfl)
 exact⟨(key _).trans h1,(key _).trans h2,(key _).trans h3,(key _).trans h4⟩
theorem Q4s.set2 {w:World} {v:Value} {cs:List Q4} {g:Nat} {T:TypeId} {a1 a2:Option Addr} {n1 c1 n2 c2:Nat} (h:Q4s w v cs) (hg:w.heap[g]? =some (.cells #[.slice a1 n1 c1, .slice a2 n2 c2] T (0,0))) (x y:Option Addr×Nat×Nat):
  Q4s ((w.setCell ⟨g,0,none⟩ (.slice x.1 x.2.1 x.2.2)).setCell ⟨g,1,none⟩ (.slice y.1 y.2.1 y.2.2)) v cs:=by
 have key:∀(w:World) (cs:Array Value),w.heap[g]? =some (.cells cs T (0,0))→(∀z∈cs,∃a n c,z= .slice a n c)→∀j k x,w.cell? ⟨g,j,none⟩≠some (.int k x):=fun w cs hw hz j k x e=>by
  rw[ag hw j]at e
  obtain⟨_,_,_,hh⟩:=hz _ (Array.mem_of_getElem? e)
  cases hh
 refine(h.far g 0 _ (key w _ hg (fun z hz=> ?_))).far g 1 _ (key _ _ (br hg 0 _) (fun z hz=> ?_))
 ·simp at hz;rcases hz with rfl|rfl<;>exact⟨_,_,_,rfl⟩
 ·simp at hz;rcases hz with rfl|rfl<;>exact⟨_,_,_,rfl⟩
def ReadPost (ps:List Q4) (pv:Value) (w:World) (e:Ending) (w':World):Prop:=
 Below w.heap.size w w'∧((bK ps=0∧∃cv,e= .returned (.tuple #[.agg #[pv,cv], .int .i64 0])∧Q4s w' cv (aS ps))∨
  (bK ps≠0∧e= .returned (.tuple #[.agg #[.slice none 0 0, .slice none 0 0], .int .i64 (bK ps)])))
theorem ReadPost.err {ps:List Q4} {pv:Value} {w w':World} {n:Int} (hb:Below w.heap.size w w') (hn:bK ps=n) (h0:n≠0):ReadPost ps pv w (.returned (.tuple #[.agg #[.slice none 0 0, .slice none 0 0], .int .i64 n])) w':=
 ⟨hb, .inr ⟨by rw[hn];exact h0,by rw[hn]⟩⟩
set_option maxRecDepth 100000 in
theorem By (ps:List Q4) (pv:Value) (w:World) (hl:ps.length≤1000000000) (hpv:Q4s w pv ps):
  Calls Tryz.prog 120 #[.agg #[pv]] w (ReadPost ps pv w):=by
 have HPV:=Lib.hid hpv
 obtain⟨a,n,cc,rfl,hn,hnc,hx⟩:=hpv
 by_cases h16:16<n
 ·have He:Hid (bK ps=8):=Lib.hid (by unfold bK;rw[if_pos (by omega)])
  clear hx
  go_enter Tryz.func120,Tryz.ntmps120
  go_wp2
  refine bodyPost_ret (v:= .tuple #[.agg #[.slice none 0 0, .slice none 0 0], .int .i64 8]) (by simp[results,Tryz.results120,go_sem]) rfl (ReadPost.err ?_ He.out (by decide))
  exact bel
 ·have Hc0:Hid (∀x,cJ ps=x→x≠0→bK ps=x):=Lib.hid (fun x h h0=>by unfold bK;rw[if_neg (by omega),if_pos (by rw[h];exact h0),h])
  have Hc1:Hid (cJ ps=0→dc ps=false→bK ps=14):=Lib.hid (fun h h1=>by unfold bK;rw[if_neg (by omega),if_neg (by simp[h]),if_pos h1])
  have Hc2:Hid (cJ ps=0→dc ps=true→fh ps (aS ps)=false→bK ps=13):=Lib.hid (fun h h1 h2=>by unfold bK;rw[if_neg (by omega),if_neg (by simp[h]),if_neg (by simp[h1]),if_pos h2])
  have Hc3:Hid (cJ ps=0→dc ps=true→fh ps (aS ps)=true→kT (aS ps)=false→bK ps=2):=Lib.hid (fun h h1 h2 h3=>by unfold bK;rw[if_neg (by omega),if_neg (by simp[h]),if_neg (by simp[h1]),if_neg (by simp[h2]),if_pos h3])
  have Hc4:Hid (cJ ps=0→dc ps=true→fh ps (aS ps)=true→kT (aS ps)=true→bK ps=0):=Lib.hid (fun h h1 h2 h3=>by unfold bK;rw[if_neg (by omega),if_neg (by simp[h]),if_neg (by simp[h1]),if_neg (by simp[h2]),if_neg (by simp[h3])])
  have Hhit:=Lib.hid (nV ps)
  have Hnone:=Lib.hid (iQ ps)
  go_enter Tryz.func120,Tryz.ntmps120
  go_wp2
  go_loopw [16] (fun i wr=>∃k:Nat,k≤n∧i= .int .i64 k∧Below w.heap.size w wr∧Hid (wr.heap[w.heap.size]? =some (.cells #[.slice a n cc] 67 (0,0)))∧Hid (wr.heap[w.heap.size+1]? =some (.cells #[.slice none 0 0, .slice none 0 0] 160 (0,0)))∧Hid (∀i (h:i<ps.length),i<k→bP ps[i]=0)) (fun i _=>n-(intOf i).toNat)
  case atStart=>exact⟨0,by omega,rfl,bel,Lib.hid ((aB (by simp)).trans (ai rfl)),Lib.hid (ai (by simp)),Lib.hid (fun i _ h=>by omega)⟩
  case round=>
   obtain⟨k,hk,rfl,hb,HB,HC,Hz⟩:=hrel
   have zC:=ah HC.out
   have r0:wr.cell? ⟨w.heap.size+1,0,none⟩=some (.slice none 0 0):=(ag HC.out 0).trans rfl
   have r1:wr.cell? ⟨w.heap.size+1,1,none⟩=some (.slice none 0 0):=(ag HC.out 1).trans rfl
   by_cases hlt:k<n
   ·obtain⟨b,off,rfl,hi⟩:=hx (by omega)
    obtain⟨c0,c1,c2,c3⟩:=(hi.below hb) k (by omega)
    have Hhk:=Lib.hid (Hhit.out k (by omega) Hz.out)
    obtain⟨p,Hp⟩:∃p,Hid (ps[k]=p):=⟨_,Lib.hid rfl⟩
    rw[Hp.out]at c0 c1 c2 c3 Hhk
    have hs:=fun W=>Lib.hid (lO p.1 p.2.1 p.2.2.1 p.2.2.2 W)
    have Hpe:Hid (bP (p.1,p.2.1,p.2.2.1,p.2.2.2)=bP p):=Lib.hid rfl
    rw[Hpe.out]at hs
    clear hx hi
    by_cases hpe:bP p=0
    ·rw[hpe]at hs
     have He:=Lib.hid hpe
     clear hpe
     go_wp2_with fail
     refine((hs _).out).mono ?_
     rintro e w1 ⟨rfl,hb1⟩
     clear hs
     go_wp2
     go_roundw
     case rel=>exact⟨k+1,by omega,by go_num,ae hb (ae bel hb1),Lib.hid ((hb1.block _ (by simp;omega)).trans ((aB (by omega)).trans HB.out)),Lib.hid ((hb1.block _ (by simp;omega)).trans ((aB zC).trans HC.out)),Lib.hid (fun i hi hik=>by
      by_cases e:i=k
      ·subst e;rw[Hp.out];exact He.out
      ·exact Hz.out i hi (by omega))⟩
     case measure=>simp[intOf];omega
    ·have Hce:=Lib.hid (Hc0.out _ (Hhk.out hpe) hpe)
     have hne:(bP p !=0)=true:=by simpa using hpe
     go_wp2_with fail
     refine((hs _).out).mono ?_
     rintro e w1 ⟨rfl,hb1⟩
     have HC1:w1.heap[w.heap.size+1]? =some (.cells #[.slice none 0 0, .slice none 0 0] 160 (0,0)):=(hb1.block _ (by simp;omega)).trans ((aB zC).trans HC.out)
     have q0:w1.cell? ⟨w.heap.size+1,0,none⟩=some (.slice none 0 0):=(ag HC1 0).trans rfl
     have q1:w1.cell? ⟨w.heap.size+1,1,none⟩=some (.slice none 0 0):=(ag HC1 1).trans rfl
     have f0:=aC HC1
     have hbw1:Below w.heap.size w w1:=ae hb (ae bel hb1)
     clear hs HC1
     generalize bP p=pe at*
     go_wp2
     refine bodyPost_ret (v:= .tuple #[.agg #[.slice none 0 0, .slice none 0 0], .int .i64 pe]) (by simp[results,Tryz.results120,go_sem,q0,q1]) rfl (ReadPost.err ?_ Hce.out hpe)
     exact(hbw1.setCell (by simp) _).setCell (by simp) _
   ·obtain rfl:k=n:=by omega
    have hall:∀i (h:i<ps.length),bP ps[i]=0:=fun i hi=>Hz.out i hi (by omega)
    have HF:=Lib.hid (Hnone.out hall)
    have Hok0:Hid (∀p∈ps,cI p):=Lib.hid (fun p hp=>by obtain⟨i,hi,rfl⟩:=List.getElem_of_mem hp;exact iR _ (hall i hi))
    have Hok:Hid (∀p∈ps,bI p):=Lib.hid (fun p hp=>(Hok0.out p hp).1)
    have Hcok:=Lib.hid (ml ps Hok.out)
    have Hclen:=Lib.hid (kV ps (by omega))
    have b0:wr.cell? ⟨w.heap.size,0,none⟩=some (.slice a k cc):=(ag HB.out 0).trans rfl
    clear hall hx
    have hbd:=fun W hW=>Lib.hid (pp ps (.slice a k cc) W Hok.out (by omega) hW)
    cases hbb:dc ps with
    |false=>
     rw[hbb]at hbd
     have He:=Lib.hid (Hc1.out HF.out hbb)
     clear hbb
     go_wp2_with fail
     refine((hbd _ (HPV.out.below hb)).out).mono ?_
     rintro e w1 ⟨rfl,hb1⟩
     have HC1:w1.heap[w.heap.size+1]? =some (.cells #[.slice none 0 0, .slice none 0 0] 160 (0,0)):=(hb1.block _ zC).trans HC.out
     have q0:w1.cell? ⟨w.heap.size+1,0,none⟩=some (.slice none 0 0):=(ag HC1 0).trans rfl
     have q1:w1.cell? ⟨w.heap.size+1,1,none⟩=some (.slice none 0 0):=(ag HC1 1).trans rfl
     have f0:=aC HC1
     have hbw1:Below w.heap.size w w1:=ae hb hb1
     clear hbd HC1
     go_wp2
     refine bodyPost_ret (v:= .tuple #[.agg #[.slice none 0 0, .slice none 0 0], .int .i64 14]) (by simp[results,Tryz.results120,go_sem,q0,q1]) rfl (ReadPost.err ?_ He.out (by decide))
     exact(hbw1.setCell (by simp) _).setCell (by simp) _
    |true=>
     rw[hbb]at hbd
     have HBB:=Lib.hid hbb
     clear hbb
     go_wp2_with fail
     refine((hbd _ (HPV.out.below hb)).out).mono ?_
     rintro e w1 ⟨rfl,hb1⟩
     have HC1:Hid (w1.heap[w.heap.size+1]? =some (.cells #[.slice none 0 0, .slice none 0 0] 160 (0,0))):=Lib.hid ((hb1.block _ zC).trans HC.out)
     have HB1:Hid (w1.heap[w.heap.size]? =some (.cells #[.slice a k cc] 67 (0,0))):=Lib.hid ((hb1.block _ (by omega)).trans HB.out)
     have hbw1:Below w.heap.size w w1:=ae hb hb1
     have b1:w1.cell? ⟨w.heap.size,0,none⟩=some (.slice a k cc):=(ag HB1.out 0).trans rfl
     have zC1:=ah HC1.out
     clear hbd HC HB b0 r0 r1 hb hb1 zC
     go_wp2_with fail
     refine(qQ ps (.slice a k cc) w1 Hok.out (by omega) (HPV.out.below hbw1)).mono ?_
     rintro e w2 ⟨cv,rfl,hb2,hown2⟩
     have HQ:=Lib.hid (dV hown2)
     have HC2:Hid (w2.heap[w.heap.size+1]? =some (.cells #[.slice none 0 0, .slice none 0 0] 160 (0,0))):=Lib.hid ((hb2.block _ zC1).trans HC1.out)
     have hbw2:Below w.heap.size w w2:=ae hbw1 hb2
     have zC2:=ah HC2.out
     have Hcvs:∃a m c,cv= .slice a m c:=by obtain⟨a,m,c,h,_⟩:=HQ.out;exact⟨a,m,c,h⟩
     obtain⟨ca,cm,cc2,rfl⟩:=Hcvs
     clear hown2 HC1 HB1 hbw1 b1 zC1 hb2
     obtain⟨W,HW⟩:∃W,Hid (w2.alloc (.cells #[.slice a k cc, .slice ca cm cc2] 160)=W):=⟨_,Lib.hid rfl⟩
     have hbW:Below w2.heap.size w2 W:=by rw[←HW.out];exact bel
     have hs:=Lib.hid (pk ps (aS ps) (.slice a k cc) (.slice ca cm cc2) W Hok.out (fun c hc=>(Hcok.out c hc).1) (by omega) (by have:=Hclen.out;omega) ((HPV.out.below hbw2).below hbW) (HQ.out.below hbW))
     rw[←HW.out]at hs
     go_wp2_with fail
     refine(hs.out).mono ?_
     rintro e w3 ⟨rfl,hb3⟩
     have HC3:Hid (w3.heap[w.heap.size+1]? =some (.cells #[.slice none 0 0, .slice none 0 0] 160 (0,0))):=Lib.hid ((hb3.block _ (by simp;omega)).trans ((aB zC2).trans HC2.out))
     have HD3:Hid (w3.heap[w2.heap.size]? =some (.cells #[.slice a k cc, .slice ca cm cc2] 160 (0,0))):=Lib.hid ((hb3.block _ (by simp)).trans (ai rfl))
     have hbw3:Below w2.heap.size w2 w3:=ae bel hb3
     have hbw3':Below w.heap.size w w3:=ae hbw2 hbw3
     have HQ3:=Lib.hid (HQ.out.below hbw3)
     have q0:w3.cell? ⟨w.heap.size+1,0,none⟩=some (.slice none 0 0):=(ag HC3.out 0).trans rfl
     have q1:w3.cell? ⟨w.heap.size+1,1,none⟩=some (.slice none 0 0):=(ag HC3.out 1).trans rfl
     have f0:=aC HC3.out
     clear hs hbW HW HC2 hb3 hbw2 zC2 HQ hbw3
     cases hsb:fh ps (aS ps)with
     |false=>
      have He:=Lib.hid (Hc2.out HF.out HBB.out hsb)
      clear hsb
      go_wp2
      refine bodyPost_ret (v:= .tuple #[.agg #[.slice none 0 0, .slice none 0 0], .int .i64 13]) (by simp[results,Tryz.results120,go_sem,q0,q1]) rfl (ReadPost.err ?_ He.out (by decide))
      exact(hbw3'.setCell (by simp) _).setCell (by simp) _
     |true=>
      have HSB:=Lib.hid hsb
      clear hsb
      have d0:w3.cell? ⟨w2.heap.size,0,none⟩=some (.slice a k cc):=(ag HD3.out 0).trans rfl
      have d1:w3.cell? ⟨w2.heap.size,1,none⟩=some (.slice ca cm cc2):=(ag HD3.out 1).trans rfl
      have hcf:=Lib.hid (fo (.slice ca cm cc2) (aS ps) (fun c=> !lw c) _ _ w3 HQ3.out (by have:=Hclen.out;omega) Bx (fun c hc=>sY c w3 (Hcok.out c hc).1))
      have hany:((aS ps).any fun c=> !lw c)= !kT (aS ps):=by simp[kT]
      rw[hany]at hcf
      clear hany
      cases hrb:kT (aS ps)with
      |false=>
       have He:=Lib.hid (Hc3.out HF.out HBB.out HSB.out hrb)
       rw[hrb]at hcf
       clear hrb
       go_wp2_with fail
       refine(hcf.out).mono ?_
       rintro e w4 ⟨rfl,hb4⟩
       have HC4:=(hb4.block _ (ah HC3.out)).trans HC3.out
       have s0:w4.cell? ⟨w.heap.size+1,0,none⟩=some (.slice none 0 0):=(ag HC4 0).trans rfl
       have s1:w4.cell? ⟨w.heap.size+1,1,none⟩=some (.slice none 0 0):=(ag HC4 1).trans rfl
       have f4:=aC HC4
       clear HC4 q0 q1 f0 d0 d1 hcf
       go_wp2
       refine bodyPost_ret (v:= .tuple #[.agg #[.slice none 0 0, .slice none 0 0], .int .i64 2]) (by simp[results,Tryz.results120,go_sem,s0,s1]) rfl (ReadPost.err ?_ He.out (by decide))
       exact((ae hbw3' hb4).setCell (by simp) _).setCell (by simp) _
      |true=>
       have He:=Lib.hid (Hc4.out HF.out HBB.out HSB.out hrb)
       rw[hrb]at hcf
       clear hrb
       go_wp2_with fail
       refine(hcf.out).mono ?_
       rintro e w4 ⟨rfl,hb4⟩
       have HC4:=Lib.hid ((hb4.block _ (ah HC3.out)).trans HC3.out)
       have HD4:=(hb4.block _ (ah HD3.out)).trans HD3.out
       have s0:w4.cell? ⟨w.heap.size+1,0,none⟩=some (.slice none 0 0):=(ag HC4.out 0).trans rfl
       have s1:w4.cell? ⟨w.heap.size+1,1,none⟩=some (.slice none 0 0):=(ag HC4.out 1).trans rfl
       have t0:w4.cell? ⟨w2.heap.size,0,none⟩=some (.slice a k cc):=(ag HD4 0).trans rfl
       have t1:w4.cell? ⟨w2.heap.size,1,none⟩=some (.slice ca cm cc2):=(ag HD4 1).trans rfl
       have f4:=aC HC4.out
       have HQ4:=Lib.hid (HQ3.out.below hb4)
       clear HD4 q0 q1 f0 d0 d1 hcf
       go_wp2
       refine bodyPost_ret (v:= .tuple #[.agg #[.slice a k cc, .slice ca cm cc2], .int .i64 0]) (by simp[results,Tryz.results120,go_sem,s0,s1]) rfl ⟨((ae hbw3' hb4).setCell (by simp) _).setCell (by simp) _, .inl ⟨He.out,_,rfl, ?_⟩⟩
       exact HQ4.out.set2 HC4.out (a,k,cc) (ca,cm,cc2)
end
section
open Go.RowKit Go.Shelf
attribute [local go_sem] Ext.cell Ext.frozen
set_option maxRecDepth 100000
theorem jx {ps:List Q4} (h:bK ps=0):ps.length≤16∧cJ ps=0:=by
 unfold bK at h
 split at h
 ·cases h
 ·rename_i h1
  split at h
  ·rename_i h2;exact absurd h h2
  ·rename_i h2;exact⟨by omega,by simpa using h2⟩
theorem nX {ps:List Q4} (h:cJ ps=0):∀p∈ps,cI p:=by
 induction ps with
 |nil=>simp
 |cons q ps ih=>
  simp only[cJ]at h
  split at h
  ·rename_i h0
   intro p hp
   rcases List.mem_cons.1 hp with rfl|hp
   ·exact iR _ h0
   ·exact ih h p hp
  ·rename_i h0;exact absurd h h0
theorem qV {ps:List Q4} (h:bK ps=0):∀p∈ps,cI p:=nX (jx h).2
theorem AY {w:World} {base base':Nat} {e:TypeId} {size n:Nat} {v:Value} {xs:List Value} (h:w.ownsRow base e size v n xs) (hb:base'≤base):w.ownsRow base' e size v n xs:=
 ⟨h.1,h.2.imp id (fun⟨g,cap,cur,hv,hg,r⟩=>⟨g,cap,cur,hv,Nat.le_trans hb hg,r⟩)⟩
def iS (ps:List Q4):List Q4:=ii ps (aS ps)
def vb (ps:List Q4) (w:World) (e:Ending) (w':World):Prop:=
 Below w.heap.size w w'∧((bK ps=0∧∃v,e= .returned (.tuple #[.agg #[v], .int .i64 0])∧w'.ownsRow w.heap.size 69 4 v (iS ps).length ((iS ps).flatMap aH))∨
  (bK ps≠0∧e= .returned (.tuple #[.agg #[.slice none 0 0], .int .i64 (bK ps)])))
theorem qW (ps:List Q4) (pv:Value) (w:World) (hl:ps.length≤1000000000) (hpv:Q4s w pv ps):
  Calls Tryz.prog 73 #[.agg #[pv]] w (vb ps w):=by
 have HPV:=Lib.hid hpv
 obtain⟨a,n,cc,rfl,hn,hnc,hx⟩:=hpv
 clear hx
 obtain⟨W,HW⟩:∃W,Hid ((w.alloc (.cells #[.slice a n cc] 67)).alloc (.cells #[.slice none 0 0] 67)=W):=⟨_,Lib.hid rfl⟩
 have hbW:Below w.heap.size w W:=by rw[←HW.out];exact bel
 have hrd:=Lib.hid (By ps (.slice a n cc) W hl (HPV.out.below hbW))
 have HC:Hid (W.heap[w.heap.size+1]? =some (.cells #[.slice none 0 0] 67 (0,0))):=by rw[←HW.out];exact Lib.hid (ai (by simp))
 have zC:=ah HC.out
 go_enter Tryz.func73,Tryz.ntmps73
 go_wp2_with fail
 rw[HW.out]
 refine(hrd.out).mono ?_
 rintro e w1 ⟨hb1,⟨h0,cv,rfl,hq⟩|⟨h0,rfl⟩⟩
 ·have HQ:=Lib.hid hq
  have HE:=Lib.hid h0
  have Hok:=Lib.hid (qV h0)
  have Hlen:=Lib.hid (jx h0).1
  have Hcok:=Lib.hid (ml ps (fun p hp=>(Hok.out p hp).1))
  have Hclen:=Lib.hid (kV ps (by have:=Hlen.out;omega))
  obtain⟨ca,cm,cc2,rfl,_⟩:=hq
  have HC1:Hid (w1.heap[w.heap.size+1]? =some (.cells #[.slice none 0 0] 67 (0,0))):=Lib.hid ((hb1.block _ zC).trans HC.out)
  have hbw1:Below w.heap.size w w1:=ae hbW hb1
  have zC1:=ah HC1.out
  obtain⟨W2,HW2⟩:∃W,Hid (w1.alloc (.cells #[.slice a n cc, .slice ca cm cc2] 160)=W):=⟨_,Lib.hid rfl⟩
  have hbW2:Below w1.heap.size w1 W2:=by rw[←HW2.out];exact bel
  have hnf:=Lib.hid (mj ps (aS ps) (.slice a n cc) (.slice ca cm cc2) W2 Hok.out (fun c hc=>(Hcok.out c hc).1) (by have:=Hlen.out;omega) (by have:=Hclen.out;omega) ((HPV.out.below hbw1).below hbW2) (HQ.out.below hbW2))
  rw[←HW2.out]at hnf
  clear hrd HC zC hb1 h0 hbW HW
  go_wp2_with fail
  refine(hnf.out).mono ?_
  rintro e w2 ⟨v,rfl,hb2,hown2⟩
  have HQ2:=Lib.hid (AY hown2 (base':=w.heap.size) (by have:=hbw1.size;simp;omega))
  have hvs:∃a m c,v= .slice a m c:=by obtain⟨a,m,c,h,_⟩:=dV hown2;exact⟨a,m,c,h⟩
  obtain⟨va,vm,vc,rfl⟩:=hvs
  have HC2:Hid (w2.heap[w.heap.size+1]? =some (.cells #[.slice none 0 0] 67 (0,0))):=Lib.hid ((hb2.block _ (by simp;omega)).trans ((aB zC1).trans HC1.out))
  have s0:w2.cell? ⟨w.heap.size+1,0,none⟩=some (.slice none 0 0):=(ag HC2.out 0).trans rfl
  have f2:=aC HC2.out
  have hbw2:Below w.heap.size w w2:=ae hbw1 (ae bel hb2)
  clear hnf hown2 hbW2 HW2 hb2
  go_wp2
  refine bodyPost_ret (v:= .tuple #[.agg #[.slice va vm vc], .int .i64 0]) (by simp[results,Tryz.results73,go_sem,s0]) rfl ⟨hbw2.setCell (by simp) _, .inl ⟨HE.out,_,rfl, ?_⟩⟩
  exact aF HQ2.out _ _ (fun e=>aG HQ2.out HC2.out (by decide) e.symm)
 ·have HC1:Hid (w1.heap[w.heap.size+1]? =some (.cells #[.slice none 0 0] 67 (0,0))):=Lib.hid ((hb1.block _ zC).trans HC.out)
  have hbw1:Below w.heap.size w w1:=ae hbW hb1
  have s0:w1.cell? ⟨w.heap.size+1,0,none⟩=some (.slice none 0 0):=(ag HC1.out 0).trans rfl
  have f2:=aC HC1.out
  have zC1:=ah HC1.out
  have hne:(bK ps !=0)=true:=by simpa using h0
  clear hrd HC zC hb1 hbW HW
  have H0:=Lib.hid h0
  clear h0
  obtain⟨ce,Hce⟩:∃ce,Hid (bK ps=ce):=⟨_,Lib.hid rfl⟩
  rw[Hce.out]at hne
  rw[Hce.out]
  go_wp2
  refine bodyPost_ret (v:= .tuple #[.agg #[.slice none 0 0], .int .i64 ce]) (by simp[results,Tryz.results73,go_sem,s0,zC1]) rfl ⟨?_, .inr ⟨H0.out,by rw[Hce.out]⟩⟩
  first|exact(hbw1.alloc (by omega) _).setCell (by simp) _|exact(hbw1.alloc (by omega) _).setCell (by omega) _|exact(hbw1.setCell (by simp) _).alloc (by simp;omega) _|(refine Below.alloc ?_ (by simp;omega) _;exact hbw1.setCell (by simp) _)
end
section
open Go.RowKit Go.Shelf
attribute [local go_sem] Ext.cell Ext.frozen
theorem mn (k:Int) (w:World):Calls Tryz.prog 131 #[.int .i64 k] w fun e w'=>e= .returned (.bool (decide (0≤k∧k≤10)))∧w=w':=by
 by_cases h1:0≤k
 ·by_cases h2:k≤10
  ·go_enter Tryz.func131,Tryz.ntmps131
   go_wp2
   go_ret
   exact⟨ay (by simp[h1,h2]),rfl⟩
  ·go_enter Tryz.func131,Tryz.ntmps131
   go_wp2
   go_ret
   exact⟨ay (by simp[h2]),rfl⟩
 ·go_enter Tryz.func131,Tryz.ntmps131
  go_wp2
  go_ret
  exact⟨ay (by simp;omega),rfl⟩
def cD (k:Int):Int:=if k=10 then 3 else 2
theorem pu (k:Int) (w:World):Calls Tryz.prog 69 #[.int .i64 k] w fun e w'=>e= .returned (.int .i64 (cD k))∧w=w':=by
 by_cases h:k=10
 ·subst h
  go_enter Tryz.func69,Tryz.ntmps69
  go_wp2
  go_ret
  exact⟨rfl,rfl⟩
 ·have h':(k==10)=false:=by simpa using h
  go_enter Tryz.func69,Tryz.ntmps69
  go_wp2
  go_ret
  exact⟨aK (by simp[cD,h]),rfl⟩
theorem ik (a b:Int) (w:World) (ha:a≠0):Calls Tryz.prog 134 #[.int .i64 a, .int .i64 b] w fun e w'=>e= .returned (.bool (b.tmod a==0))∧w=w':=by
 have h':(a==0)=false:=by simpa using ha
 go_enter Tryz.func134,Tryz.ntmps134
 go_wp2
 go_ret
 exact⟨rfl,rfl⟩
theorem eE (a b c d:Int) (w:World) (ha: -1000000000≤a∧a≤1000000000) (hb: -1000000000≤b∧b≤1000000000) (hc: -1000000000≤c∧c≤1000000000) (hd: -1000000000≤d∧d≤1000000000):
  Calls Tryz.prog 82 #[V4 a b c d] w (Ret w (V4 (-a) (-b) (-c) (-d))):=by
 go_enter Tryz.func82,Tryz.ntmps82
 go_wp2
 refine bodyPost_ret (v:=V4 (-a) (-b) (-c) (-d)) (by simp[results,Tryz.results82,go_sem]) rfl ⟨rfl, ?_⟩
 exact bel
def axP (ax:Nat) (s d:Int):Q4:=(if ax=0 then s else 0,if ax=1 then s else 0,if ax=2 then s else 0,d)
set_option maxRecDepth 100000 in
theorem cR (ax:Nat) (n:Int) (w:World) (hx:ax≤2) (_hn: -1000000000≤n∧n≤1000000000):Calls Tryz.prog 76 #[.int .i64 ax, .int .i64 n] w (Ret w (v4 (axP ax 1 (n)))):=by
 rcases(by omega:ax=0∨ax=1∨ax=2)with rfl|rfl|rfl
 ·show Calls Tryz.prog 76 #[.int .i64 0, .int .i64 n] w (Ret w (V4 1 0 0 (n)))
  go_enter Tryz.func76,Tryz.ntmps76
  go_wp2
  refine bodyPost_ret (v:=V4 1 0 0 (n)) (by simp[results,Tryz.results76,go_sem]) rfl ⟨rfl, ?_⟩
  exact bel
 ·show Calls Tryz.prog 76 #[.int .i64 1, .int .i64 n] w (Ret w (V4 0 1 0 (n)))
  go_enter Tryz.func76,Tryz.ntmps76
  go_wp2
  refine bodyPost_ret (v:=V4 0 1 0 (n)) (by simp[results,Tryz.results76,go_sem]) rfl ⟨rfl, ?_⟩
  exact bel
 ·show Calls Tryz.prog 76 #[.int .i64 2, .int .i64 n] w (Ret w (V4 0 0 1 (n)))
  go_enter Tryz.func76,Tryz.ntmps76
  go_wp2
  refine bodyPost_ret (v:=V4 0 0 1 (n)) (by simp[results,Tryz.results76,go_sem]) rfl ⟨rfl, ?_⟩
  exact bel
set_option maxRecDepth 100000 in
theorem bX (ax:Nat) (n:Int) (w:World) (hx:ax≤2) (hn: -1000000000≤n∧n≤1000000000):Calls Tryz.prog 75 #[.int .i64 ax, .int .i64 n] w (Ret w (v4 (axP ax (-1) (-n)))):=by
 rcases(by omega:ax=0∨ax=1∨ax=2)with rfl|rfl|rfl
 ·show Calls Tryz.prog 75 #[.int .i64 0, .int .i64 n] w (Ret w (V4 (-1) 0 0 (-n)))
  go_enter Tryz.func75,Tryz.ntmps75
  go_wp2
  refine bodyPost_ret (v:=V4 (-1) 0 0 (-n)) (by simp[results,Tryz.results75,go_sem]) rfl ⟨rfl, ?_⟩
  exact bel
 ·show Calls Tryz.prog 75 #[.int .i64 1, .int .i64 n] w (Ret w (V4 0 (-1) 0 (-n)))
  go_enter Tryz.func75,Tryz.ntmps75
  go_wp2
  refine bodyPost_ret (v:=V4 0 (-1) 0 (-n)) (by simp[results,Tryz.results75,go_sem]) rfl ⟨rfl, ?_⟩
  exact bel
 ·show Calls Tryz.prog 75 #[.int .i64 2, .int .i64 n] w (Ret w (V4 0 0 (-1) (-n)))
  go_enter Tryz.func75,Tryz.ntmps75
  go_wp2
  refine bodyPost_ret (v:=V4 0 0 (-1) (-n)) (by simp[results,Tryz.results75,go_sem]) rfl ⟨rfl, ?_⟩
  exact bel
theorem mo (n lo hi:Int) (b c:Nat) (w:World) (h0:w.cell? ⟨b,0,none⟩=some (.int .i64 lo)) (h1:w.cell? ⟨c,0,none⟩=some (.int .i64 hi)):
  Calls Tryz.prog 105 #[.int .i64 n, .pointer (some ⟨b,0,none⟩), .pointer (some ⟨c,0,none⟩)] w (Ret w (.bool (decide (n<lo∨hi<n)))):=by
 by_cases h2:n<lo
 ·go_enter Tryz.func105,Tryz.ntmps105
  go_wp2
  go_ret
  exact⟨ay (by simp[h2]),Below.refl _ _⟩
 ·by_cases h3:hi<n
  ·go_enter Tryz.func105,Tryz.ntmps105
   go_wp2
   go_ret
   exact⟨ay (by simp),Below.refl _ _⟩
  ·go_enter Tryz.func105,Tryz.ntmps105
   go_wp2
   go_ret
   exact⟨ay (by simp;omega),Below.refl _ _⟩
theorem qX:∀args w,(callFunc 105 args).run Tryz.prog w= .ok (.enter 105 args) w:=enters_of Tryz.func105 (by kernel_rfl) rfl
def bB (lo hi:Int) (xs:List Int):Bool:= !(xs.any fun n=>decide (n<lo∨hi<n))
theorem cC (lo hi:Int) (xs:List Int):bB lo hi xs=true↔∀x∈xs,lo≤x∧x≤hi:=by
 simp only[bB,Bool.not_eq_true',List.any_eq_false,decide_eq_true_eq]
 exact⟨fun h x hx=>by have:=h x hx;omega,fun h x hx=>by have:=h x hx;omega⟩
theorem fG (lo hi:Int) (v:Value) (xs:List Int) (w:World) (hx:Ints w v xs) (hm:xs.length≤1000000000):
  Calls Tryz.prog 55 #[.int .i64 lo, .int .i64 hi,v] w (Ret w (.bool (bB lo hi xs))):=by
 obtain⟨W,HW⟩:∃W,Hid ((w.alloc (.cells #[.int .i64 lo] 3)).alloc (.cells #[.int .i64 hi] 3)=W):=⟨_,Lib.hid rfl⟩
 have hbW:Below w.heap.size w W:=by rw[←HW.out];exact bel
 have c0:W.cell? ⟨w.heap.size,0,none⟩=some (.int .i64 lo):=by rw[←HW.out];exact(ag ((aB (by simp)).trans (ai rfl)) 0).trans rfl
 have c1:W.cell? ⟨w.heap.size+1,0,none⟩=some (.int .i64 hi):=by rw[←HW.out];exact(ag (ai (by simp)) 0).trans rfl
 have hcon:=Lib.hid (jV v xs (fun n=>decide (n<lo∨hi<n)) _ #[.pointer (some ⟨w.heap.size,0,none⟩), .pointer (some ⟨w.heap.size+1,0,none⟩)] W (hx.below hbW) hm qX (fun x _ w' hb=>mo x lo hi _ _ w' (ab hb c0) (ab hb c1)))
 rw[←HW.out]at hcon
 have Hr:Hid ((xs.any fun n=>decide (n<lo∨hi<n))= !bB lo hi xs):=Lib.hid (by simp[bB])
 rw[Hr.out]at hcon
 clear hx c0 c1 HW hbW
 generalize bB lo hi xs=r at*
 go_enter Tryz.func55,Tryz.ntmps55
 go_wp2_with fail
 refine(hcon.out).mono ?_
 rintro e w1 ⟨rfl,hb1⟩
 go_wp2
 go_ret
 exact⟨ay (by simp),ae bel hb1⟩
def aD:List Int→Bool
 |x::y::l=>decide (x<y)&&aD (y::l)
 |_=>true
theorem Be:∀xs:List Int,aD xs=true↔∀i,i+1<xs.length→xs.getD i 0<xs.getD (i+1) 0
 | []=>by simp[aD]
 | [x]=>by simp[aD]
 |x::y::l=>by
  simp only[aD,Bool.and_eq_true,decide_eq_true_eq,Be (y::l)]
  constructor
  ·rintro⟨h1,h2⟩ i hi
   cases i with
   |zero=>simpa using h1
   |succ i=>have:=h2 i (by simpa using hi);simpa using this
  ·intro h
   refine⟨by simpa using h 0 (by simp),fun i hi=> ?_⟩
   have:=h (i+1) (by simpa using hi)
   simpa using this
theorem cS (xs:List Int) (i:Nat) (h:i<xs.length):xs[i]=xs.getD i 0:=by simp[List.getD,h]
theorem cA (v:Value) (xs:List Int) (w:World) (hx:Ints w v xs) (hm:xs.length≤1000000000):
  Calls Tryz.prog 132 #[v] w (Ret w (.bool (aD xs))):=by
 obtain⟨a,n,c,rfl,hn,_,hx⟩:=hx
 have Hyes:Hid ((∀i,i+1<xs.length→xs.getD i 0<xs.getD (i+1) 0)→aD xs=true):=Lib.hid (Be xs).2
 have Hno:Hid (∀i,i+1<xs.length→¬xs.getD i 0<xs.getD (i+1) 0→aD xs=false):=Lib.hid (fun i hi h=>by rw[Bool.eq_false_iff];exact fun h'=>h ((Be xs).1 h' i hi))
 generalize aD xs=res at*
 go_enter Tryz.func132,Tryz.ntmps132
 go_wp2
 go_loopw [3] (fun i wr=>∃k:Nat,1≤k∧(k≤n∨k=1)∧i= .int .i64 k∧Below w.heap.size w wr∧Hid (∀i,i+1<k→xs.getD i 0<xs.getD (i+1) 0)) (fun i _=>n-(intOf i).toNat)
 case atStart=>exact⟨1,by omega,by omega,rfl,Below.refl _ _,Lib.hid (fun i h=>by omega)⟩
 case round=>
  obtain⟨k,hk1,hk2,rfl,hb,Hz⟩:=hrel
  by_cases hlt:k<n
  ·obtain⟨b,off,rfl,hi⟩:=hx (by omega)
   have c1:=ab hb (hi k (by omega))
   have c0:=ab hb (hi (k-1) (by omega))
   have zb:=World.block_lt_of_cell? wr _ c1
   simp only at zb
   rw[cS xs k (by omega)]at c1
   rw[cS xs (k-1) (by omega)]at c0
   have Hnk:=Lib.hid (Hno.out (k-1) (by omega))
   rw[show k-1+1=k by omega]at Hnk
   obtain⟨x,Hx⟩:∃x,Hid (xs.getD k 0=x):=⟨_,Lib.hid rfl⟩
   obtain⟨y,Hy⟩:∃y,Hid (xs.getD (k-1) 0=y):=⟨_,Lib.hid rfl⟩
   rw[Hx.out]at c1 Hnk
   rw[Hy.out]at c0 Hnk
   clear hx hi
   by_cases hxy:y<x
   ·go_wp2
    refine wqf fun u=> ?_
    go_wp2
    go_roundw
    case rel=>exact⟨k+1,by omega,by omega,by go_num,ae hb u.below,Lib.hid (fun i hi=>by
     by_cases e:i=k-1
     ·subst e;rw[show k-1+1=k by omega,Hx.out,Hy.out];exact hxy
     ·exact Hz.out i (by omega))⟩
    case measure=>simp[intOf];omega
   ·go_wp2
    refine wqf fun u=> ?_
    go_wp2
    go_ret
    exact⟨ay (Hnk.out hxy).symm,ae hb u.below⟩
  ·have Hy:=Lib.hid (Hyes.out (fun i hi=>Hz.out i (by omega)))
   clear hx
   go_wp2
   go_ret
   exact⟨ay Hy.out.symm,hb⟩
def Bf (kind n:Int):Bool:=
 if kind=5 then decide (3≤n)else if kind=7 then decide (1≤n)else if kind=8 then decide (8≤n)&&n.tmod 2==0 else
 n==[1,2,4,6,4,0,3,0,0,5,5].getD kind.toNat 0
theorem yL (w:World):(Instr.index 171 (.agg #[.int .i64 1, .int .i64 2, .int .i64 4, .int .i64 6, .int .i64 4, .int .i64 0, .int .i64 3, .int .i64 0, .int .i64 0, .int .i64 5, .int .i64 5]) (.int .i64 0)).run Tryz.prog w= .ok (.int .i64 1) w:=by kernel_rfl
set_option maxRecDepth 100000 in
theorem sZ (n:Int) (w:World):Calls Tryz.prog 96 #[.int .i64 0, .int .i64 n] w fun e w'=>e= .returned (.bool (n==1))∧w=w':=by
 have hi:=yL
 go_enter Tryz.func96,Tryz.ntmps96
 go_wp2
 go_ret
 exact⟨rfl,rfl⟩
theorem yM (w:World):(Instr.index 171 (.agg #[.int .i64 1, .int .i64 2, .int .i64 4, .int .i64 6, .int .i64 4, .int .i64 0, .int .i64 3, .int .i64 0, .int .i64 0, .int .i64 5, .int .i64 5]) (.int .i64 1)).run Tryz.prog w= .ok (.int .i64 2) w:=by kernel_rfl
set_option maxRecDepth 100000 in
theorem Bp (n:Int) (w:World):Calls Tryz.prog 96 #[.int .i64 1, .int .i64 n] w fun e w'=>e= .returned (.bool (n==2))∧w=w':=by
 have hi:=yM
 go_enter Tryz.func96,Tryz.ntmps96
 go_wp2
 go_ret
 exact⟨rfl,rfl⟩
theorem yN (w:World):(Instr.index 171 (.agg #[.int .i64 1, .int .i64 2, .int .i64 4, .int .i64 6, .int .i64 4, .int .i64 0, .int .i64 3, .int .i64 0, .int .i64 0, .int .i64 5, .int .i64 5]) (.int .i64 2)).run Tryz.prog w= .ok (.int .i64 4) w:=by kernel_rfl
set_option maxRecDepth 100000 in
theorem tb (n:Int) (w:World):Calls Tryz.prog 96 #[.int .i64 2, .int .i64 n] w fun e w'=>e= .returned (.bool (n==4))∧w=w':=by
 have hi:=yN
 go_enter Tryz.func96,Tryz.ntmps96
 go_wp2
 go_ret
 exact⟨rfl,rfl⟩
theorem yO (w:World):(Instr.index 171 (.agg #[.int .i64 1, .int .i64 2, .int .i64 4, .int .i64 6, .int .i64 4, .int .i64 0, .int .i64 3, .int .i64 0, .int .i64 0, .int .i64 5, .int .i64 5]) (.int .i64 3)).run Tryz.prog w= .ok (.int .i64 6) w:=by kernel_rfl
set_option maxRecDepth 100000 in
theorem td (n:Int) (w:World):Calls Tryz.prog 96 #[.int .i64 3, .int .i64 n] w fun e w'=>e= .returned (.bool (n==6))∧w=w':=by
 have hi:=yO
 go_enter Tryz.func96,Tryz.ntmps96
 go_wp2
 go_ret
 exact⟨rfl,rfl⟩
theorem yP (w:World):(Instr.index 171 (.agg #[.int .i64 1, .int .i64 2, .int .i64 4, .int .i64 6, .int .i64 4, .int .i64 0, .int .i64 3, .int .i64 0, .int .i64 0, .int .i64 5, .int .i64 5]) (.int .i64 4)).run Tryz.prog w= .ok (.int .i64 4) w:=by kernel_rfl
set_option maxRecDepth 100000 in
theorem te (n:Int) (w:World):Calls Tryz.prog 96 #[.int .i64 4, .int .i64 n] w fun e w'=>e= .returned (.bool (n==4))∧w=w':=by
 have hi:=yP
 go_enter Tryz.func96,Tryz.ntmps96
 go_wp2
 go_ret
 exact⟨rfl,rfl⟩
theorem yQ (w:World):(Instr.index 171 (.agg #[.int .i64 1, .int .i64 2, .int .i64 4, .int .i64 6, .int .i64 4, .int .i64 0, .int .i64 3, .int .i64 0, .int .i64 0, .int .i64 5, .int .i64 5]) (.int .i64 6)).run Tryz.prog w= .ok (.int .i64 3) w:=by kernel_rfl
set_option maxRecDepth 100000 in
theorem tf (n:Int) (w:World):Calls Tryz.prog 96 #[.int .i64 6, .int .i64 n] w fun e w'=>e= .returned (.bool (n==3))∧w=w':=by
 have hi:=yQ
 go_enter Tryz.func96,Tryz.ntmps96
 go_wp2
 go_ret
 exact⟨rfl,rfl⟩
theorem yR (w:World):(Instr.index 171 (.agg #[.int .i64 1, .int .i64 2, .int .i64 4, .int .i64 6, .int .i64 4, .int .i64 0, .int .i64 3, .int .i64 0, .int .i64 0, .int .i64 5, .int .i64 5]) (.int .i64 9)).run Tryz.prog w= .ok (.int .i64 5) w:=by kernel_rfl
set_option maxRecDepth 100000 in
theorem tg (n:Int) (w:World):Calls Tryz.prog 96 #[.int .i64 9, .int .i64 n] w fun e w'=>e= .returned (.bool (n==5))∧w=w':=by
 have hi:=yR
 go_enter Tryz.func96,Tryz.ntmps96
 go_wp2
 go_ret
 exact⟨rfl,rfl⟩
theorem xy (w:World):(Instr.index 171 (.agg #[.int .i64 1, .int .i64 2, .int .i64 4, .int .i64 6, .int .i64 4, .int .i64 0, .int .i64 3, .int .i64 0, .int .i64 0, .int .i64 5, .int .i64 5]) (.int .i64 10)).run Tryz.prog w= .ok (.int .i64 5) w:=by kernel_rfl
set_option maxRecDepth 100000 in
theorem qY (n:Int) (w:World):Calls Tryz.prog 96 #[.int .i64 10, .int .i64 n] w fun e w'=>e= .returned (.bool (n==5))∧w=w':=by
 have hi:=xy
 go_enter Tryz.func96,Tryz.ntmps96
 go_wp2
 go_ret
 exact⟨rfl,rfl⟩
set_option maxRecDepth 100000 in
theorem ti (n:Int) (w:World):Calls Tryz.prog 96 #[.int .i64 5, .int .i64 n] w fun e w'=>e= .returned (.bool (decide (3≤n)))∧w=w':=by
 go_enter Tryz.func96,Tryz.ntmps96
 go_wp2
 go_ret
 exact⟨rfl,rfl⟩
set_option maxRecDepth 100000 in
theorem tj (n:Int) (w:World):Calls Tryz.prog 96 #[.int .i64 7, .int .i64 n] w fun e w'=>e= .returned (.bool (decide (1≤n)))∧w=w':=by
 go_enter Tryz.func96,Tryz.ntmps96
 go_wp2
 go_ret
 exact⟨rfl,rfl⟩
set_option maxRecDepth 100000 in
theorem tk (n:Int) (w:World):Calls Tryz.prog 96 #[.int .i64 8, .int .i64 n] w fun e w'=>e= .returned (.bool (decide (8≤n)&&n.tmod 2==0))∧w=w':=by
 by_cases h:8≤n
 ·go_enter Tryz.func96,Tryz.ntmps96
  go_wp2
  go_ret
  exact⟨ay (by rw[Int.tmod_eq_emod_of_nonneg (by omega)];simp[h]),rfl⟩
 ·go_enter Tryz.func96,Tryz.ntmps96
  go_wp2
  go_ret
  exact⟨ay (by simp;omega),rfl⟩
theorem pw (kind n:Int) (w:World) (hk:0≤kind∧kind≤10):Calls Tryz.prog 96 #[.int .i64 kind, .int .i64 n] w fun e w'=>e= .returned (.bool (Bf kind n))∧w=w':=by
 rcases(by omega:kind=0∨kind=1∨kind=2∨kind=3∨kind=4∨kind=5∨kind=6∨kind=7∨kind=8∨kind=9∨kind=10)with rfl|rfl|rfl|rfl|rfl|rfl|rfl|rfl|rfl|rfl|rfl
 ·exact sZ n w
 ·exact Bp n w
 ·exact tb n w
 ·exact td n w
 ·exact te n w
 ·exact ti n w
 ·exact tf n w
 ·exact tj n w
 ·exact tk n w
 ·exact tg n w
 ·exact qY n w
end
section
open Go.RowKit Go.Shelf
attribute [local go_sem] Ext.cell Ext.frozen
set_option maxRecDepth 100000
def iL (p:Int×Int):List Value:=[.int .i64 p.1, .int .i64 p.2]
theorem vd (x:Int×Int):∀v∈iL x,v.oneCell'=true:=fun v hv=>by simp[iL]at hv;rcases hv with rfl|rfl<;>rfl
def cG (xs:List Int) (j:Nat):List (Int×Int):=(List.range j).map fun t=>(xs.getD (6+2*t) 0,xs.getD (7+2*t) 0)
theorem nY (xs:List Int) (j:Nat):cG xs (j+1)=cG xs j++[(xs.getD (6+2*j) 0,xs.getD (7+2*j) 0)]:=by simp[cG,List.range_succ]
theorem fR (xs:List Int) (j:Nat):(cG xs j).length=j:=by simp[cG]
theorem tm:(Tryz.prog.info? 157).map (fun i=>(i.zero,i.size,i.bytes))=some (some (.agg #[.int .i64 0, .int .i64 0]),2,16):=by kernel_rfl
theorem tn:Tryz.prog.underlying 102=some (.slice 157):=by kernel_rfl
theorem ki (v:Value) (xs:List Int) (w:World) (m:Nat) (hx:Ints w v xs) (hm:xs.length=6+2*m) (hl:m≤1000000):
  Calls Tryz.prog 68 #[v] w fun e w'=>∃r,e= .returned r∧Below w.heap.size w w'∧w'.ownsRow w.heap.size 157 2 r m ((cG xs m).flatMap iL):=by
 obtain⟨a,n,c,rfl,hn,_,hx⟩:=hx
 obtain⟨i0,hi0,hz0,hz1,hz2⟩:=info_parts tm
 have Hi0:=Lib.hid (And.intro hi0 (And.intro hz0 (And.intro hz1 hz2)))
 clear hi0 hz0 hz1 hz2
 go_enter Tryz.func68,Tryz.ntmps68
 go_wp2
 go_loopw [3,4] (fun s3 i wr=>∃k:Nat,k≤m∧i= .int .i64 (6+2*k)∧Below w.heap.size w wr∧Hid (wr.ownsRow w.heap.size 157 2 s3 k ((cG xs k).flatMap iL))) (fun _ i _=>n-(intOf i).toNat)
 case atStart=>exact⟨0,by omega,rfl,Below.refl _ _,Lib.hid (World.ownsRow_nil _ _ _ _)⟩
 case round=>
  obtain⟨k,hk,rfl,hb,HO⟩:=hrel
  by_cases hlt:k<m
  ·obtain⟨b,off,rfl,hi⟩:=hx (by omega)
   have c0:=ab hb (hi (6+2*k) (by omega))
   have c1:=ab hb (hi (6+2*k+1) (by omega))
   rw[cS xs _ (by omega)]at c0 c1
   have zb:=World.block_lt_of_cell? wr _ c0
   simp only at zb
   have Hsn:=Lib.hid (nY xs k)
   rw[show 7+2*k=6+2*k+1 by omega]at Hsn
   obtain⟨x,Hx⟩:∃x,Hid (xs.getD (6+2*k) 0=x):=⟨_,Lib.hid rfl⟩
   obtain⟨y,Hy⟩:∃y,Hid (xs.getD (6+2*k+1) 0=y):=⟨_,Lib.hid rfl⟩
   rw[Hx.out]at c0 Hsn
   rw[Hy.out]at c1 Hsn
   have t1:((6+2*(k:Int)).toNat)=6+2*k:=by omega
   have t2:((6+2*(k:Int)+1).toNat)=6+2*k+1:=by omega
   have q1:(0:Int)≤6+2*(k:Int):=by omega
   have q2:(0:Int)≤6+2*(k:Int)+1:=by omega
   have q3:6+2*(k:Int)<(n:Int):=by omega
   have q4:6+2*(k:Int)+1<(n:Int):=by omega
   have zo:=HO.out
   clear hx hi zo
   go_wp2
   have q5:IntKind.i64.wrap (6+2*(k:Int)+1)=6+2*(k:Int)+1:=IntWalk.i64_in _ (by omega)
   refine ib (C:=fun w'=>∃u:Ext _,w'=u.val) [0] [1,2,3,4,5,6,7,8,9,10] 11 [12,13] (by kernel_rfl) (by kernel_rfl) ⟨Ext.drew,rfl⟩ ?_
   simp only[oas]
   repeat(refine jm (fun K' hK'=> ?_);go_simp;refine hK' _ ?_;clear hK' K')
   refine lG ?_
   repeat(first|go_big_quiet_step (fail)|quiet_step (fail))
   refine wpQuiet_nil ?_
   rintro _ ⟨u,rfl⟩
   clear q1 q2 q3 q4 q5 t1 t2
   iterate 1 (refine wpList_step (fun K hK=> ?_);go_simp;refine hK _ _ ?_;clear hK K)
   have HO2:=Lib.hid (au HO.out u.below)
   have hbu:Below w.heap.size w u.val:=ae hb u.below
   refine wpList_append_own _ rfl _ _ 102 rfl w.heap.size 157 i0 (.agg #[.int .i64 0, .int .i64 0]) 2 16 tn Hi0.out.1 Hi0.out.2.1 Hi0.out.2.2.1 Hi0.out.2.2.2 rfl (by decide) u3 k _ rfl (HO2.out.alloc _) ⟨u.val.heap.size,0,none⟩ 1 1 (iL (x,y)) rfl rfl ?c1 ?c2 ?c3 ?c4 ?c5 ?_
   case c1=>
    intro jj uu hu
    rw[jY,aq rfl jj]
    simpa [iL]using hu
   case c2=>exact vd _
   case c3=>unfold maxLen;omega
   case c4=>omega
   case c5=>simp;have:=hbu.size;omega
   intro v' w2 hown2 hg2 _
   have hbw2:Below w.heap.size w w2:=(hbu.alloc hbu.size _).grown hg2 (by simp;have:=hbu.size;omega) (fun q hq=>by obtain⟨h,_⟩:=HO2.out.lt q hq;omega)
   have HO3:=Lib.hid hown2
   clear hown2 hg2 HO2 c0 c1
   go_frame
   iterate 1 (refine wpList_step (fun K hK=> ?_);go_simp;refine hK _ _ ?_;clear hK K)
   refine NoPanic.normal ?_
   go_wp2
   go_roundw
   case rel=>exact⟨k+1,by omega,by go_num,hbw2,Lib.hid (by rw[Hsn.out];simpa using HO3.out)⟩
   case measure=>simp[intOf];omega
  ·obtain rfl:k=m:=by omega
   clear hx
   go_wp2
   go_ret
   exact⟨_,rfl,hb,HO.out⟩
end
section
open Go.RowKit Go.Shelf
attribute [local go_sem] Ext.cell Ext.frozen
def bF (L W:Int) (xs:List Int):Bool:=
 decide (1≤xs.getD 0 0∧xs.getD 0 0≤8)&&(L.tmod (xs.getD 0 0)==0)&&decide (0<xs.getD 1 0)&&
 decide (L / xs.getD 0 0≤xs.getD 2 0)&&(List.range (xs.length-3)).all (fun i=>decide (xs.getD (2+i) 0+xs.getD 1 0+2*(L / xs.getD 0 0)≤xs.getD (3+i) 0))&&
 decide (xs.getD (xs.length-1) 0+xs.getD 1 0+L / xs.getD 0 0≤W)
theorem ve {W:World} {T:TypeId} {x:Int} {g:Nat} (hg:g=W.heap.size):Ints (W.alloc (.cells #[.int .i64 x] T)) (.slice (some ⟨g,0,none⟩) 1 1) [x]:=
 ⟨_,_,_,rfl,rfl,Nat.le_refl _,fun _=>⟨g,0,rfl,fun i hi=>by
  have:i=0:=by simpa using hi
  subst this
  exact(aq hg 0).trans rfl⟩⟩
theorem fS (lo hi:Int) (W:World) (T:TypeId) (x:Int) (g:Nat) (hg:g=W.heap.size):
  Calls Tryz.prog 55 #[.int .i64 lo, .int .i64 hi, .slice (some ⟨g,0,none⟩) 1 1] (W.alloc (.cells #[.int .i64 x] T)) (Ret (W.alloc (.cells #[.int .i64 x] T)) (.bool (decide (lo≤x∧x≤hi)))):=by
 have:=fG lo hi _ [x] _ (ve (T:=T) (x:=x) hg) (by simp)
 have e:bB lo hi [x]=decide (lo≤x∧x≤hi):=by
  rw[Bool.eq_iff_iff,cC];simp
 rwa [e]at this
set_option maxRecDepth 100000 in
theorem mp (L W:Int) (v:Value) (xs:List Int) (w:World) (hx:Ints w v xs) (hl:3≤xs.length) (hm:xs.length≤1000000) (hb:∀x∈xs, -1000000≤x∧x≤1000000) (hL:1≤L∧L≤1000000):
  Calls Tryz.prog 133 #[.int .i64 L, .int .i64 W,v] w (Ret w (.bool (bF L W xs))):=by
 obtain⟨a,n,c,rfl,hn,hc,hx⟩:=hx
 obtain⟨q,rfl⟩:∃q,n=q+2:=⟨n-2,by omega⟩
 obtain⟨b,off,rfl,hi⟩:=hx (by omega)
 have c0:=hi 0 (by omega)
 have c1:=hi 1 (by omega)
 have zb:=World.block_lt_of_cell? w _ c0
 simp only at zb
 rw[cS xs _ (by omega)]at c0 c1
 rw[Nat.add_zero]at c0
 have n0:(0:Int)<((q+2:Nat):Int):=by omega
 have n1:(1:Int)<((q+2:Nat):Int):=by omega
 have n2:(2:Int)≤((q+2:Nat):Int):=by omega
 have n3:2<c:=by omega
 have n4:1<q+2:=by omega
 have n5:2≤q+2:=by omega
 have HI:=Lib.hid hi
 have HB:Hid (∀i,i<xs.length→ -1000000≤xs.getD i 0∧xs.getD i 0≤1000000):=Lib.hid (fun i h=>by rw[←cS xs i h];exact hb _ (List.getElem_mem h))
 have hbs:=HB.out 0 (by omega)
 have hbw:=HB.out 1 (by omega)
 have Hfalse1:Hid (¬(1≤xs.getD 0 0∧xs.getD 0 0≤8)→bF L W xs=false):=Lib.hid (fun h=>by unfold bF;rw[decide_eq_false h];rfl)
 have Hfalse2:Hid ((L.tmod (xs.getD 0 0)==0)=false→bF L W xs=false):=Lib.hid (fun h=>by unfold bF;rw[h];simp)
 have Hfalse3:Hid (¬0<xs.getD 1 0→bF L W xs=false):=Lib.hid (fun h=>by unfold bF;rw[decide_eq_false h];simp)
 have Hfalse4:Hid (¬L / xs.getD 0 0≤xs.getD 2 0→bF L W xs=false):=Lib.hid (fun h=>by unfold bF;rw[decide_eq_false h];simp)
 have Hfalse5:Hid (∀i,i<xs.length-3→¬xs.getD (2+i) 0+xs.getD 1 0+2*(L / xs.getD 0 0)≤xs.getD (3+i) 0→bF L W xs=false):=Lib.hid (fun i hi h=>by
  have:(List.range (xs.length-3)).all (fun i=>decide (xs.getD (2+i) 0+xs.getD 1 0+2*(L / xs.getD 0 0)≤xs.getD (3+i) 0))=false:=by
   rw[List.all_eq_false];exact⟨i,by simpa using hi,by simpa using h⟩
  unfold bF;rw[this];simp)
 have Htrue:Hid ((1≤xs.getD 0 0∧xs.getD 0 0≤8)→(L.tmod (xs.getD 0 0)==0)=true→0<xs.getD 1 0→L / xs.getD 0 0≤xs.getD 2 0→(∀i,i<xs.length-3→xs.getD (2+i) 0+xs.getD 1 0+2*(L / xs.getD 0 0)≤xs.getD (3+i) 0)→bF L W xs=decide (xs.getD (xs.length-1) 0+xs.getD 1 0+L / xs.getD 0 0≤W)):=Lib.hid (fun h1 h2 h3 h4 h5=>by
  have:(List.range (xs.length-3)).all (fun i=>decide (xs.getD (2+i) 0+xs.getD 1 0+2*(L / xs.getD 0 0)≤xs.getD (3+i) 0))=true:=by
   rw[List.all_eq_true];intro i hi;exact decide_eq_true (h5 i (by simpa using hi))
  unfold bF;rw[decide_eq_true h1,h2,decide_eq_true h3,decide_eq_true h4,this];rfl)
 generalize bF L W xs=res at*
 generalize xs.getD 0 0=s at*
 generalize xs.getD 1 0=ww at*
 clear hx hi hb
 by_cases hs:1≤s∧s≤8
 ·have hsd:(decide (1≤s∧s≤8))=true:=decide_eq_true hs
  have hw1:=fun W' g hg=>Lib.hid (fS 1 8 W' 3 s g hg)
  rw[hsd]at hw1
  clear hsd
  cases hdv:(L.tmod s==0)with
  |false=>
   have He:=Lib.hid (Hfalse2.out hdv)
   have hdi:=fun W'=>Lib.hid (ik s L W' (by omega))
   rw[hdv]at hdi
   clear hdv
   go_enter Tryz.func133,Tryz.ntmps133
   go_wp2
   refine wqf fun u=> ?_
   go_wp2_with fail
   refine((hw1 _ _ (by simp)).out).mono ?_
   rintro e w1 ⟨rfl,hb1⟩
   go_wp2_with fail
   refine((hdi _).out).mono ?_
   rintro e w2 ⟨rfl,rfl⟩
   go_wp2
   go_ret
   exact⟨ay He.out.symm,ae u.below (ae bel hb1)⟩
  |true=>
   have Hdv:=Lib.hid hdv
   have hdi:=fun W'=>Lib.hid (ik s L W' (by omega))
   rw[hdv]at hdi
   clear hdv
   by_cases hww:0<ww
   ·obtain⟨k,Hk⟩:∃k,Hid (L / s=k):=⟨_,Lib.hid rfl⟩
    have hk0:0≤k∧k≤1000000:=by
     rw[←Hk.out]
     exact⟨Int.ediv_nonneg (by omega) (by omega),Int.le_trans (Int.ediv_le_self _ (by omega)) (by omega)⟩
    rw[Hk.out]at Hfalse4 Hfalse5 Htrue
    go_enter Tryz.func133,Tryz.ntmps133
    go_wp2
    refine wqf fun u=> ?_
    go_wp2_with fail
    refine((hw1 _ _ (by simp)).out).mono ?_
    rintro e w1 ⟨rfl,hb1⟩
    go_wp2_with fail
    refine((hdi _).out).mono ?_
    rintro e w2 ⟨rfl,rfl⟩
    have hbw1:Below w.heap.size w w1:=ae u.below (ae bel hb1)
    have hkk:=Hk.out
    clear hw1 hdi c0 c1 hb1
    go_wp2
    rw[hkk]
    clear hkk
    go_loopw [39] (fun i wr=>∃j:Nat,j≤q∧i= .int .i64 j∧Below w.heap.size w wr∧Hid (1≤j→k≤xs.getD 2 0)∧Hid (∀i,i+1<j→xs.getD (2+i) 0+ww+2*k≤xs.getD (3+i) 0)) (fun i _=>q-(intOf i).toNat)
    case atStart=>exact⟨0,by omega,rfl,hbw1,Lib.hid (fun h=>by omega),Lib.hid (fun i h=>by omega)⟩
    case round=>
     clear hbw1
     obtain⟨j,hj,rfl,hbj,H1,H2⟩:=hrel
     by_cases hlt:j<q
     ·by_cases hj0:j=0
      ·subst hj0
       have c2:=ab hbj (HI.out 2 (by omega))
       have bp:=HB.out 2 (by omega)
       rw[cS xs _ (by omega)]at c2
       have zr:=World.block_lt_of_cell? wr _ c2
       simp only at zr
       have Hf:=Lib.hid Hfalse4.out
       generalize xs.getD 2 0=p0 at*
       by_cases hp:k≤p0
       ·have hpd:decide (p0<k)=false:=by simpa using hp
        go_wp2
        refine wqf fun u=> ?_
        go_wp2
        go_roundw
        case rel=>exact⟨1,by omega,by go_num,ae hbj u.below,Lib.hid (fun _=>hp),Lib.hid (fun i hi=>by omega)⟩
        case measure=>simp[intOf];omega
       ·have hpd:decide (p0<k)=true:=by simpa using hp
        go_wp2
        refine wqf fun u=> ?_
        go_wp2
        go_ret
        exact⟨ay (Hf.out hp).symm,ae hbj u.below⟩
      ·have c2:=ab hbj (HI.out (2+j) (by omega))
       have c1:=ab hbj (HI.out (2+(j-1)) (by omega))
       have zr:=World.block_lt_of_cell? wr _ c2
       simp only at zr
       have b2:=HB.out (2+j) (by omega)
       have b1:=HB.out (2+(j-1)) (by omega)
       have Hf:=Lib.hid (Hfalse5.out (j-1) (by omega))
       rw[show 3+(j-1)=2+j by omega]at Hf
       rw[cS xs _ (by omega)]at c2 c1
       rw[←Nat.add_assoc]at c2 c1
       obtain⟨x,Hx⟩:∃x,Hid (xs.getD (2+j) 0=x):=⟨_,Lib.hid rfl⟩
       obtain⟨y,Hy⟩:∃y,Hid (xs.getD (2+(j-1)) 0=y):=⟨_,Lib.hid rfl⟩
       rw[Hx.out]at c2 Hf b2
       rw[Hy.out]at c1 Hf b1
       have w1:IntKind.i64.wrap (y+ww)=y+ww:=IntWalk.i64_in _ (by omega)
       have w2:IntKind.i64.wrap (2*k)=2*k:=IntWalk.i64_in _ (by omega)
       have w3:IntKind.i64.wrap (y+ww+2*k)=y+ww+2*k:=IntWalk.i64_in _ (by omega)
       have w4:IntKind.i64.wrap ((j:Int)-1)=((j-1:Nat):Int):=(IntWalk.i64_in _ (by omega)).trans (by omega)
       have g1:((j:Int)==0)=false:=by simpa using hj0
       have g2:0<j:=by omega
       have m1:(0:Int)≤(j:Int):=by omega
       have m2:(j:Int)<(q:Int):=by omega
       have m3:(0:Int)≤((j-1:Nat):Int):=by omega
       have m4:((j-1:Nat):Int)<(q:Int):=by omega
       by_cases hp:y+ww+2*k≤x
       ·have hpd:decide (x<y+ww+2*k)=false:=by simpa using hp
        go_wp2
        refine wqf fun u=> ?_
        go_wp2
        go_roundw
        case rel=>exact⟨j+1,by omega,by go_num,ae hbj u.below,Lib.hid (fun _=>H1.out (by omega)),Lib.hid (fun i hi=>by
         by_cases e:i=j-1
         ·subst e;rw[show 3+(j-1)=2+j by omega,Hx.out,Hy.out];exact hp
         ·exact H2.out i (by omega))⟩
        case measure=>simp[intOf];omega
       ·have hpd:decide (x<y+ww+2*k)=true:=by simpa using hp
        go_wp2
        refine wqf fun u=> ?_
        go_wp2
        go_ret
        exact⟨ay (Hf.out hp).symm,ae hbj u.below⟩
     ·have c2:=ab hbj (HI.out (2+(q-1)) (by omega))
      have zr:=World.block_lt_of_cell? wr _ c2
      simp only at zr
      have b2:=HB.out (2+(q-1)) (by omega)
      rw[cS xs _ (by omega)]at c2
      rw[←Nat.add_assoc]at c2
      have He:=Lib.hid (Htrue.out hs Hdv.out hww (H1.out (by omega)) (fun i hi=>H2.out i (by omega)))
      rw[show xs.length-1=2+(q-1) by omega]at He
      generalize xs.getD (2+(q-1)) 0=x at*
      have w1:IntKind.i64.wrap (x+ww)=x+ww:=IntWalk.i64_in _ (by omega)
      have w3:IntKind.i64.wrap (x+ww+k)=x+ww+k:=IntWalk.i64_in _ (by omega)
      have w4:IntKind.i64.wrap ((q:Int)-1)=((q-1:Nat):Int):=(IntWalk.i64_in _ (by omega)).trans (by omega)
      have m3:(0:Int)≤((q-1:Nat):Int):=by omega
      have m4:((q-1:Nat):Int)<(q:Int):=by omega
      go_wp2
      go_ret
      exact⟨ay He.out.symm,hbj⟩
   ·have He:=Lib.hid (Hfalse3.out hww)
    go_enter Tryz.func133,Tryz.ntmps133
    go_wp2
    refine wqf fun u=> ?_
    go_wp2_with fail
    refine((hw1 _ _ (by simp)).out).mono ?_
    rintro e w1 ⟨rfl,hb1⟩
    go_wp2_with fail
    refine((hdi _).out).mono ?_
    rintro e w2 ⟨rfl,rfl⟩
    go_wp2
    go_ret
    exact⟨ay He.out.symm,ae u.below (ae bel hb1)⟩
 ·have hsd:(decide (1≤s∧s≤8))=false:=decide_eq_false hs
  have hw1:=fun W' g hg=>Lib.hid (fS 1 8 W' 3 s g hg)
  rw[hsd]at hw1
  have He:=Lib.hid (Hfalse1.out hs)
  clear hsd hs
  go_enter Tryz.func133,Tryz.ntmps133
  go_wp2
  refine wqf fun u=> ?_
  go_wp2_with fail
  refine((hw1 _ _ (by simp)).out).mono ?_
  rintro e w1 ⟨rfl,hb1⟩
  go_wp2
  go_ret
  exact⟨ay He.out.symm,ae u.below (ae bel hb1)⟩
def vJ (k l w t:Int) (n:Value):Value:= .agg #[.int .i64 k, .int .i64 l, .int .i64 w, .int .i64 t,n]
theorem aX {W:World} {T:TypeId} (xs:List Int) {g:Nat} (hg:g=W.heap.size):Ints (W.alloc (.cells (xs.map (Value.int .i64)).toArray T)) (.slice (some ⟨g,0,none⟩) xs.length xs.length) xs:=
 ⟨_,_,_,rfl,rfl,Nat.le_refl _,fun _=>⟨g,0,rfl,fun i hi=>by
  refine(aq hg _).trans ?_
  simp[hi]⟩⟩
set_option maxRecDepth 100000 in
theorem sm (l w t:Int) (nv:Value) (n:List Int) (W:World) (hn:Ints W nv n) (hl:n.length=1):
  Calls Tryz.prog 97 #[vJ 0 l w t nv] W (Ret W (.bool (aD [0,n.getD 0 0,t]))):=by
 unfold vJ
 obtain⟨a,m,c,rfl,hm,hc,hx⟩:=hn
 obtain⟨b,off,rfl,hi⟩:=hx (by omega)
 have c0:=hi 0 (by omega)
 have zb:=World.block_lt_of_cell? W _ c0
 simp only at zb
 rw[cS n _ (by omega)]at c0
 rw[Nat.add_zero]at c0
 generalize n.getD 0 0=x at*
 obtain rfl:m=1:=by omega
 have hr:=fun W' g hg=>Lib.hid (cA _ [0,x,t] _ (aX (W:=W') (T:=3) (g:=g) [0,x,t] hg) (by simp))
 clear hi hx hm
 go_enter Tryz.func97,Tryz.ntmps97
 go_wp2
 refine wqf fun u=> ?_
 go_wp2_with fail
 refine((hr _ _ rfl).out).mono ?_
 rintro e w1 ⟨rfl,hb1⟩
 go_wp2
 go_ret
 exact⟨rfl,ae (show Below W.heap.size W u.val from bel) (ae bel hb1)⟩
set_option maxRecDepth 100000 in
theorem sr (l w t:Int) (nv:Value) (n:List Int) (W:World) (hn:Ints W nv n) (hl:3≤n.length) (hm:n.length≤1000000) (hb:∀x∈n, -1000000≤x∧x≤1000000) (hL:1≤l∧l≤1000000):
  Calls Tryz.prog 97 #[vJ 5 l w t nv] W (Ret W (.bool (bF l w n))):=by
 unfold vJ
 have hr:=fun W' h=>Lib.hid (mp l w nv n W' (hn.below (w':=W') h) hl hm hb hL)
 clear hn
 go_enter Tryz.func97,Tryz.ntmps97
 go_wp2
 refine wqf fun u=> ?_
 go_wp2_with fail
 refine((hr _ bel).out).mono ?_
 rintro e w1 ⟨rfl,hb1⟩
 go_wp2
 go_ret
 exact⟨rfl,ae bel hb1⟩
def ef (k l w t:Int):Int:=if(0≤k∧k≤10)∧bB 1 100000 [l,w,t]=true then 0 else 2
set_option maxRecDepth 100000 in
theorem nZ (k l w t:Int) (W:World):
  Calls Tryz.prog 95 #[.int .i64 k, .agg #[.int .i64 l, .int .i64 w, .int .i64 t]] W (Ret W (.int .i64 (ef k l w t))):=by
 by_cases hk:0≤k∧k≤10
 ·have hi:=fun W'=>Lib.hid (mn k W')
  rw[show decide (0≤k∧k≤10)=true from decide_eq_true hk]at hi
  cases hw:bB 1 100000 [l,w,t]with
  |true=>
   have hr:=fun W' T g hg=>Lib.hid (fG 1 100000 _ [l,w,t] _ (aX (W:=W') (T:=T) (g:=g) [l,w,t] hg) (by simp))
   rw[hw]at hr
   have He:=Lib.hid (show ef k l w t=0 by unfold ef;rw[if_pos ⟨hk,hw⟩])
   clear hw
   go_enter Tryz.func95,Tryz.ntmps95
   go_wp2_with fail
   refine((hi _).out).mono ?_
   rintro e w1 ⟨rfl,rfl⟩
   go_wp2_with fail
   refine((hr _ _ _ rfl).out).mono ?_
   rintro e w1 ⟨rfl,hb1⟩
   go_wp2
   go_ret
   exact⟨aK He.out.symm,ae bel hb1⟩
  |false=>
   have hr:=fun W' T g hg=>Lib.hid (fG 1 100000 _ [l,w,t] _ (aX (W:=W') (T:=T) (g:=g) [l,w,t] hg) (by simp))
   rw[hw]at hr
   have He:=Lib.hid (show ef k l w t=2 by unfold ef;rw[if_neg (fun h=>by rw[hw]at h;exact Bool.false_ne_true h.2)])
   clear hw
   go_enter Tryz.func95,Tryz.ntmps95
   go_wp2_with fail
   refine((hi _).out).mono ?_
   rintro e w1 ⟨rfl,rfl⟩
   go_wp2_with fail
   refine((hr _ _ _ rfl).out).mono ?_
   rintro e w1 ⟨rfl,hb1⟩
   go_wp2
   go_ret
   exact⟨aK He.out.symm,ae bel hb1⟩
 ·have hi:=fun W'=>Lib.hid (mn k W')
  rw[show decide (0≤k∧k≤10)=false from decide_eq_false hk]at hi
  have He:=Lib.hid (show ef k l w t=2 by unfold ef;rw[if_neg (fun h=>hk h.1)])
  go_enter Tryz.func95,Tryz.ntmps95
  go_wp2_with fail
  refine((hi _).out).mono ?_
  rintro e w1 ⟨rfl,rfl⟩
  go_wp2
  go_ret
  exact⟨aK He.out.symm,bel⟩
def eF (k l w t:Int) (n:List Int) (rb:Bool):Int:=
 if ef k l w t≠0 then 2 else if 24<n.length then 8 else if Bf k n.length=false then 10 else
 if bB (-100000) 100000 n=false then 2 else if rb=false then 3 else 0
set_option maxRecDepth 100000 in
theorem kj (k l w t:Int) (nv:Value) (n:List Int) (rb:Bool) (W:World) (hn:Ints W nv n) (hm:n.length≤1000000)
  (hr:(0≤k∧k≤10)→bB 1 100000 [l,w,t]=true→n.length≤24→Bf k n.length=true→bB (-100000) 100000 n=true→∀W',Below W.heap.size W W'→Calls Tryz.prog 97 #[vJ k l w t nv] W' (Ret W' (.bool rb))):
  Calls Tryz.prog 48 #[vJ k l w t nv] W (Ret W (.int .i64 (eF k l w t n rb))):=by
 unfold vJ at*
 have h1:=fun W'=>Lib.hid (nZ k l w t W')
 by_cases hbx:ef k l w t=0
 ·rw[hbx]at h1
  by_cases h24:24<n.length
  ·have He:=Lib.hid (show eF k l w t n rb=8 by unfold eF;rw[if_neg (by simp[hbx]),if_pos h24])
   clear hr
   obtain⟨a,m,c,rfl,hm',hc,hx⟩:=hn
   have m24:(24:Int)<(m:Int):=by omega
   have m24':24<m:=by omega
   clear hx
   go_enter Tryz.func48,Tryz.ntmps48
   go_wp2_with fail
   refine((h1 _).out).mono ?_
   rintro e w1 ⟨rfl,hb1⟩
   have hw1:=ae (show Below W.heap.size W (W.alloc (.cells #[.int .i64 k, .int .i64 l, .int .i64 w, .int .i64 t, .slice a m c] 25))from bel) hb1
   have c0:=ab hb1 ((aq rfl 0).trans rfl:_=some (.int .i64 k))
   have c4:=ab hb1 ((aq rfl 4).trans rfl:_=some (.slice a m c))
   have c1:=ab hb1 ((aq rfl 1).trans rfl:_=some (.int .i64 l))
   have c2:=ab hb1 ((aq rfl 2).trans rfl:_=some (.int .i64 w))
   have c3:=ab hb1 ((aq rfl 3).trans rfl:_=some (.int .i64 t))
   go_wp2
   go_ret
   exact⟨aK He.out.symm,hw1⟩
  ·obtain⟨hk,hwi⟩:(0≤k∧k≤10)∧bB 1 100000 [l,w,t]=true:=by
    unfold ef at hbx
    split at hbx
    ·assumption
    ·simp at hbx
   have h2:=fun W'=>Lib.hid (pw k n.length W' hk)
   cases hc:Bf k n.length with
   |false=>
    have He:=Lib.hid (show eF k l w t n rb=10 by unfold eF;rw[if_neg (by simp[hbx]),if_neg h24,if_pos hc])
    rw[hc]at h2
    clear hr hc
    obtain⟨a,m,c,rfl,hm',hc,hx⟩:=hn
    rw[hm']at h2
    have m24:¬24<m:=by omega
    clear hx
    go_enter Tryz.func48,Tryz.ntmps48
    go_wp2_with fail
    refine((h1 _).out).mono ?_
    rintro e w1 ⟨rfl,hb1⟩
    have hw1:=ae (show Below W.heap.size W (W.alloc (.cells #[.int .i64 k, .int .i64 l, .int .i64 w, .int .i64 t, .slice a m c] 25))from bel) hb1
    have c0:=ab hb1 ((aq rfl 0).trans rfl:_=some (.int .i64 k))
    have c4:=ab hb1 ((aq rfl 4).trans rfl:_=some (.slice a m c))
    have c1:=ab hb1 ((aq rfl 1).trans rfl:_=some (.int .i64 l))
    have c2:=ab hb1 ((aq rfl 2).trans rfl:_=some (.int .i64 w))
    have c3:=ab hb1 ((aq rfl 3).trans rfl:_=some (.int .i64 t))
    go_wp2_with fail
    refine((h2 _).out).mono ?_
    rintro e w2 ⟨rfl,rfl⟩
    go_wp2
    go_ret
    exact⟨aK He.out.symm,hw1⟩
   |true=>
    rw[hc]at h2
    have h3:=fun W' h=>Lib.hid (fG (-100000) 100000 nv n W' (hn.below (w':=W') h) (by omega))
    cases hcw:bB (-100000) 100000 n with
    |false=>
     have He:=Lib.hid (show eF k l w t n rb=2 by unfold eF;rw[if_neg (by simp[hbx]),if_neg h24,if_neg (by simp[hc]),if_pos hcw])
     rw[hcw]at h3
     clear hr hc hcw
     obtain⟨a,m,c,rfl,hm',hc,hx⟩:=hn
     rw[hm']at h2
     have m24:¬24<m:=by omega
     clear hx
     go_enter Tryz.func48,Tryz.ntmps48
     go_wp2_with fail
     refine((h1 _).out).mono ?_
     rintro e w1 ⟨rfl,hb1⟩
     have hw1:=ae (show Below W.heap.size W (W.alloc (.cells #[.int .i64 k, .int .i64 l, .int .i64 w, .int .i64 t, .slice a m c] 25))from bel) hb1
     have c0:=ab hb1 ((aq rfl 0).trans rfl:_=some (.int .i64 k))
     have c4:=ab hb1 ((aq rfl 4).trans rfl:_=some (.slice a m c))
     have c1:=ab hb1 ((aq rfl 1).trans rfl:_=some (.int .i64 l))
     have c2:=ab hb1 ((aq rfl 2).trans rfl:_=some (.int .i64 w))
     have c3:=ab hb1 ((aq rfl 3).trans rfl:_=some (.int .i64 t))
     go_wp2_with fail
     refine((h2 _).out).mono ?_
     rintro e w2 ⟨rfl,rfl⟩
     go_wp2_with fail
     refine((h3 _ hw1).out).mono ?_
     rintro e w3 ⟨rfl,hb3⟩
     go_wp2
     go_ret
     exact⟨aK He.out.symm,ae hw1 hb3⟩
    |true=>
     have He:=Lib.hid (show eF k l w t n rb=if rb=false then 3 else 0 by unfold eF;rw[if_neg (by simp[hbx]),if_neg h24,if_neg (by simp[hc]),if_neg (by simp[hcw])])
     have h4:=fun W' h=>Lib.hid (hr hk hwi (by omega) hc hcw W' h)
     rw[hcw]at h3
     clear hr hc hcw
     obtain⟨a,m,c,rfl,hm',hc,hx⟩:=hn
     rw[hm']at h2
     have m24:¬24<m:=by omega
     clear hx
     cases rb
     ·go_enter Tryz.func48,Tryz.ntmps48
      go_wp2_with fail
      refine((h1 _).out).mono ?_
      rintro e w1 ⟨rfl,hb1⟩
      have hw1:=ae (show Below W.heap.size W (W.alloc (.cells #[.int .i64 k, .int .i64 l, .int .i64 w, .int .i64 t, .slice a m c] 25))from bel) hb1
      have c0:=ab hb1 ((aq rfl 0).trans rfl:_=some (.int .i64 k))
      have c4:=ab hb1 ((aq rfl 4).trans rfl:_=some (.slice a m c))
      have c1:=ab hb1 ((aq rfl 1).trans rfl:_=some (.int .i64 l))
      have c2:=ab hb1 ((aq rfl 2).trans rfl:_=some (.int .i64 w))
      have c3:=ab hb1 ((aq rfl 3).trans rfl:_=some (.int .i64 t))
      go_wp2_with fail
      refine((h2 _).out).mono ?_
      rintro e w2 ⟨rfl,rfl⟩
      go_wp2_with fail
      refine((h3 _ hw1).out).mono ?_
      rintro e w3 ⟨rfl,hb3⟩
      have c0:=ab hb3 c0
      have c1:=ab hb3 c1
      have c2:=ab hb3 c2
      have c3:=ab hb3 c3
      have c4:=ab hb3 c4
      go_wp2_with fail
      refine((h4 _ (ae hw1 hb3)).out).mono ?_
      rintro e w4 ⟨rfl,hb4⟩
      go_wp2
      go_ret
      exact⟨aK He.out.symm,ae (ae hw1 hb3) hb4⟩
     ·go_enter Tryz.func48,Tryz.ntmps48
      go_wp2_with fail
      refine((h1 _).out).mono ?_
      rintro e w1 ⟨rfl,hb1⟩
      have hw1:=ae (show Below W.heap.size W (W.alloc (.cells #[.int .i64 k, .int .i64 l, .int .i64 w, .int .i64 t, .slice a m c] 25))from bel) hb1
      have c0:=ab hb1 ((aq rfl 0).trans rfl:_=some (.int .i64 k))
      have c4:=ab hb1 ((aq rfl 4).trans rfl:_=some (.slice a m c))
      have c1:=ab hb1 ((aq rfl 1).trans rfl:_=some (.int .i64 l))
      have c2:=ab hb1 ((aq rfl 2).trans rfl:_=some (.int .i64 w))
      have c3:=ab hb1 ((aq rfl 3).trans rfl:_=some (.int .i64 t))
      go_wp2_with fail
      refine((h2 _).out).mono ?_
      rintro e w2 ⟨rfl,rfl⟩
      go_wp2_with fail
      refine((h3 _ hw1).out).mono ?_
      rintro e w3 ⟨rfl,hb3⟩
      have c0:=ab hb3 c0
      have c1:=ab hb3 c1
      have c2:=ab hb3 c2
      have c3:=ab hb3 c3
      have c4:=ab hb3 c4
      go_wp2_with fail
      refine((h4 _ (ae hw1 hb3)).out).mono ?_
      rintro e w4 ⟨rfl,hb4⟩
      go_wp2
      go_ret
      exact⟨aK He.out.symm,ae (ae hw1 hb3) hb4⟩
 ·have He:=Lib.hid (show eF k l w t n rb=2 by unfold eF;rw[if_pos hbx])
  have:ef k l w t=2:=by unfold ef at hbx ⊢;split at hbx<;>simp_all
  rw[this]at h1
  clear this hbx hr hn
  go_enter Tryz.func48,Tryz.ntmps48
  go_wp2_with fail
  refine((h1 _).out).mono ?_
  rintro e w1 ⟨rfl,hb1⟩
  have hw1:=ae (show Below W.heap.size W (W.alloc (.cells #[.int .i64 k, .int .i64 l, .int .i64 w, .int .i64 t,nv] 25))from bel) hb1
  have c0:=ab hb1 ((aq rfl 0).trans rfl:_=some (.int .i64 k))
  have c4:=ab hb1 ((aq rfl 4).trans rfl:_=some nv)
  have c1:=ab hb1 ((aq rfl 1).trans rfl:_=some (.int .i64 l))
  have c2:=ab hb1 ((aq rfl 2).trans rfl:_=some (.int .i64 w))
  have c3:=ab hb1 ((aq rfl 3).trans rfl:_=some (.int .i64 t))
  go_wp2
  go_ret
  exact⟨aK He.out.symm,hw1⟩
end
end Go.Proofs.YtokhkhnofkcalaaGreatDoor
