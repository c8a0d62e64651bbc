/- texts: X1 X2 X6. -/
import Derived.Test.YtokhkhnofkcalaaGreatDoorKZS24
namespace Go.Proofs.YtokhkhnofkcalaaGreatDoor
set_option maxHeartbeats 8000000
set_option linter.unusedSimpArgs false
set_option linter.unusedVariables false
section
open Go.RowKit Go.Shelf
set_option maxRecDepth 100000
attribute [local go_sem] Ext.cell Ext.frozen
def zE (ks:List (List (List Q4))) (gs:List (List Q4)):Value→World→Prop:=fun v w=>∃u gv,v= .agg #[u,gv]∧PartsV 0 w u ks∧CellsV 0 w gv gs
theorem iJ {w:World}:CellsV 0 w (.slice none 0 0) []:=⟨⟨none,0,0,rfl,rfl,Nat.le_refl _,fun h=>absurd h (by omega)⟩,fun a m c _=>Nat.zero_le _⟩
def cW (W:World) (ks:List (List (List Q4))) (gs:List (List Q4)):Ending→World→Prop:=fun e w'=>∃v,e= .returned v∧Below W.heap.size W w'∧zE ks gs v w'
theorem fO {B:Nat} {W:World} {T:TypeId} {v:Value} {p:List Q4} (hB:B≤W.heap.size) (hp:PlanesV B W v p) (hb:Below W.heap.size W (W.alloc (.cells #[v] T))):CellsV B (W.alloc (.cells #[v] T)) (.slice (some ⟨W.heap.size,0,none⟩) 1 1) [p]:=
 ⟨fI [v] [p] rfl rfl rfl (by
  intro q hq
  simp only[List.zip_cons_cons,List.zip_nil_right,List.mem_cons,List.not_mem_nil,or_false]at hq
  subst hq
  exact hp.below hb),At.mk hB⟩
theorem rJ {B:Nat} {W:World} {T:TypeId} {v v2:Value} {p p2:List Q4} (hB:B≤W.heap.size) (hp:PlanesV B W v p) (hp2:PlanesV B W v2 p2) (hb:Below W.heap.size W (W.alloc (.cells #[v,v2] T))):CellsV B (W.alloc (.cells #[v,v2] T)) (.slice (some ⟨W.heap.size,0,none⟩) 2 2) [p,p2]:=
 ⟨fI [v,v2] [p,p2] rfl rfl rfl (by
  intro q hq
  simp only[List.zip_cons_cons,List.zip_nil_right,List.mem_cons,List.not_mem_nil,or_false]at hq
  rcases hq with rfl|rfl
  ·exact hp.below hb
  ·exact hp2.below hb),At.mk hB⟩
theorem jg {B:Nat} {W:World} {T:TypeId} {v v2:Value} {p p2:List (List Q4)} (hB:B≤W.heap.size) (hp:CellsV B W v p) (hp2:CellsV B W v2 p2) (hb:Below W.heap.size W (W.alloc (.cells #[v,v2] T))):PartsV B (W.alloc (.cells #[v,v2] T)) (.slice (some ⟨W.heap.size,0,none⟩) 2 2) [p,p2]:=
 ⟨fI [v,v2] [p,p2] rfl rfl rfl (by
  intro q hq
  simp only[List.zip_cons_cons,List.zip_nil_right,List.mem_cons,List.not_mem_nil,or_false]at hq
  rcases hq with rfl|rfl
  ·exact hp.below hb
  ·exact hp2.below hb),At.mk hB⟩
theorem fv {B:Nat} {w:World} {v:Value} {ps:List Q4} (h:PlanesV B w v ps):∃a m c,v= .slice a m c:=by obtain⟨⟨a,m,c,h,_⟩,_⟩:=h;exact⟨a,m,c,h⟩
theorem dY {B:Nat} {w:World} {v:Value} {ps:List (List Q4)} (h:CellsV B w v ps):∃a m c,v= .slice a m c:=by obtain⟨⟨a,m,c,h,_⟩,_⟩:=h;exact⟨a,m,c,h⟩
theorem et {B:Nat} {w:World} {v:Value} {ps:List (List (List Q4))} (h:PartsV B w v ps):∃a m c,v= .slice a m c:=by obtain⟨⟨a,m,c,h,_⟩,_⟩:=h;exact⟨a,m,c,h⟩
theorem tP (l w t:Int) (nv:Value) (n:List Int) (W:World) (hn:Ints W nv n) (hl:n.length=2) (hb:∀i, -100000≤n.getD i 0∧n.getD i 0≤100000):
  Calls Tryz.prog 31 #[vJ 1 l w t nv] W (cW W (aR 1 l w n) (bR 1 l n)):=by
 unfold vJ
 obtain⟨b,off,c,rfl,hc,zb,hat⟩:=hn.at' (by omega)
 have c0:=hat 0 (by omega)
 have c1:=hat 1 (by omega)
 rw[Nat.add_zero]at c0
 have b0:=hb 0
 have b1:=hb 1
 have hk:aR 1 l w n=[[[axP 2 1 (n.getD 0 0)],[axP 2 (-1) (-n.getD 1 0)]],[btP 2 (n.getD 0 0) (n.getD 1 0)]]:=rfl
 have hg:bR 1 l n=[]:=rfl
 rw[hk,hg]
 rw[hl]
 generalize n.getD 0 0=x0 at*
 generalize n.getD 1 0=x1 at*
 have h1:=fun W'=>Lib.hid (cR 2 x0 W' (by omega) (by omega))
 have h2:=fun W'=>Lib.hid (bX 2 x1 W' (by omega) (by omega))
 have h3:=fun W'=>Lib.hid (show Calls Tryz.prog 72 #[.int .i64 2, .int .i64 x0, .int .i64 x1] W' fun e w'=>∃r,e= .returned r∧Below W'.heap.size W' w'∧PlanesV W'.heap.size w' r (btP 2 x0 x1)from fC 2 x0 x1 W' (by omega) (by omega) (by omega))
 generalize axP 2 1 x0=p at*
 generalize axP 2 (-1) (-x1)=q at*
 generalize btP 2 x0 x1=r at*
 obtain⟨p1,p2,p3,p4⟩:=p
 obtain⟨q1,q2,q3,q4⟩:=q
 clear hat hn hl hb hk hg b0 b1
 obtain⟨W1,HW1⟩:∃W1,Hid ((W.alloc (.cells #[.int .i64 1, .int .i64 l, .int .i64 w, .int .i64 t, .slice (some ⟨b,off,none⟩) 2 c] 25)).alloc (.cells #[.slice none 0 0, .slice none 0 0] 75)=W1):=⟨_,Lib.hid rfl⟩
 have hW1:Below W.heap.size W W1:=by rw[←HW1.out];exact bel
 have HR:Hid (W1.heap[W.heap.size+1]? =some (.cells #[.slice none 0 0, .slice none 0 0] 75 (0,0))):=by rw[←HW1.out];exact Lib.hid (ai (by simp))
 have c0:=ab hW1 c0
 have c1:=ab hW1 c1
 have zs:W.heap.size+2≤W1.heap.size:=by rw[←HW1.out];simp
 have zb:=Nat.lt_of_lt_of_le zb hW1.size
 go_enter Tryz.func31,Tryz.ntmps31
 go_wp2
 rw[HW1.out]
 clear HW1
 apply aj [] [0,1,2,3,4,5,6,7,8,9,10,11,12,13,14,15,16,17,18,19,20] 21 [] [sv _,sv _,sv _,sv _,⟨IsP (W.heap.size+2) [(p1,p2,p3,p4)],by first|exact dy _ _|exact dA _ _|exact dK _ _|exact di _ _⟩,sv _,sv _,sv _,sv _,⟨IsP (W.heap.size+2) [(q1,q2,q3,q4)],by first|exact dy _ _|exact dA _ _|exact dK _ _|exact di _ _⟩,⟨IsC (W.heap.size+2) [[(p1,p2,p3,p4)],[(q1,q2,q3,q4)]],by first|exact dy _ _|exact dA _ _|exact dK _ _|exact di _ _⟩,sv _,sv _,sv _,sv _,sv _,sv _,⟨IsP (W.heap.size+2) r,by first|exact dy _ _|exact dA _ _|exact dK _ _|exact di _ _⟩,⟨IsC (W.heap.size+2) [r],by first|exact dy _ _|exact dA _ _|exact dK _ _|exact di _ _⟩,⟨IsK (W.heap.size+2) [[[(p1,p2,p3,p4)],[(q1,q2,q3,q4)]],[r]],by first|exact dy _ _|exact dA _ _|exact dK _ _|exact di _ _⟩,⟨xD (W.heap.size+2) [[[(p1,p2,p3,p4)],[(q1,q2,q3,q4)]],[r]],by first|exact dy _ _|exact dA _ _|exact dK _ _|exact di _ _⟩] (by kernel_rfl) (by kernel_rfl)
 iterate 3 ((try go_frame);refine wkQ ?_)
 try go_frame
 refine wkV ?_
 apply ex3
 ·intro u K hK
  go_simp
  refine((h1 _).out).mono ?_
  rintro e w9 ⟨rfl,hb9⟩
  exact hK _ hb9
 rfl
 try go_frame
 refine wkU (fun u hR K hK=> ?_) (fun o4=> ?_)
 ·clear hR
  have zw:=u.size
  go_simp
  exact hK _ _ bel (dZ [(p1,p2,p3,p4)] rfl (by omega) rfl)
 iterate 3 ((try go_frame);refine wkQ ?_)
 try go_frame
 refine wkV ?_
 apply ex3
 ·intro u K hK
  go_simp
  refine((h2 _).out).mono ?_
  rintro e w9 ⟨rfl,hb9⟩
  exact hK _ hb9
 rfl
 try go_frame
 refine wkU (fun u hR K hK=> ?_) (fun o9=> ?_)
 ·clear hR
  have zw:=u.size
  go_simp
  exact hK _ _ bel (dZ [(q1,q2,q3,q4)] rfl (by omega) rfl)
 try go_frame
 refine wkU (fun u hR K hK=> ?_) (fun o10=> ?_)
 ·have h4:IsP (W.heap.size+2) [(p1,p2,p3,p4)] o4 u.val:=hr hR 4
  have h9:IsP (W.heap.size+2) [(q1,q2,q3,q4)] o9 u.val:=hr hR 9
  clear hR
  have zw:=u.size
  obtain⟨ya,ym,yc,rfl⟩:=fv h4
  obtain⟨za,zm,zc,rfl⟩:=fv h9
  have H4:=Lib.hid h4
  have H9:=Lib.hid h9
  clear h4 h9
  go_simp
  exact hK _ _ bel (rJ (by omega) H4.out H9.out bel)
 iterate 6 ((try go_frame);refine wkQ ?_)
 try go_frame
 refine wkU (fun u hR K hK=> ?_) (fun o17=> ?_)
 ·clear hR
  go_simp
  refine((h3 _).out).mono ?_
  rintro e w9 ⟨v9,rfl,hb9,hp9⟩
  exact hK _ _ hb9 (PlanesV.mono hp9 (by have:=u.size;omega))
 try go_frame
 refine wkU (fun u hR K hK=> ?_) (fun o18=> ?_)
 ·have h17:IsP (W.heap.size+2) r o17 u.val:=hr hR 17
  clear hR
  have zw:=u.size
  obtain⟨ya,ym,yc,rfl⟩:=fv h17
  have H4:=Lib.hid h17
  clear h17
  go_simp
  exact hK _ _ bel (fO (by omega) H4.out bel)
 try go_frame
 refine wkU (fun u hR K hK=> ?_) (fun o19=> ?_)
 ·have h10:IsC (W.heap.size+2) [[(p1,p2,p3,p4)],[(q1,q2,q3,q4)]] o10 u.val:=hr hR 10
  have h18:IsC (W.heap.size+2) [r] o18 u.val:=hr hR 18
  clear hR
  have zw:=u.size
  obtain⟨ya,ym,yc,rfl⟩:=dY h10
  obtain⟨za,zm,zc,rfl⟩:=dY h18
  have H4:=Lib.hid h10
  have H9:=Lib.hid h18
  clear h10 h18
  go_simp
  exact hK _ _ bel (jg (by omega) H4.out H9.out bel)
 try go_frame
 refine wkU (fun u hR K hK=> ?_) (fun o20=> ?_)
 ·have h19:IsK (W.heap.size+2) [[[(p1,p2,p3,p4)],[(q1,q2,q3,q4)]],[r]] o19 u.val:=hr hR 19
  clear hR
  obtain⟨ya,ym,yc,rfl⟩:=et h19
  have H4:=Lib.hid h19
  clear h19
  go_simp
  exact hK _ _ brf ⟨_,rfl,H4.out⟩
 try go_frame
 refine aI (fun u hR=> ?_)
 have hb':=u.below
 generalize u.val=w' at*
 obtain⟨u,rfl,hp⟩:∃u,o20= .agg #[u, .slice none 0 0]∧PartsV (W.heap.size+2) w' u [[[(p1,p2,p3,p4)],[(q1,q2,q3,q4)]],[r]]:=hR 20 (by simp)
 have HP:=Lib.hid hp
 obtain⟨pa,pm,pc,rfl⟩:=et hp
 have HR':w'.heap[W.heap.size+1]? =some (.cells #[.slice none 0 0, .slice none 0 0] 75 (0,0)):=(hb'.block _ (ah HR.out)).trans HR.out
 have e0:=(ag HR' 0).trans rfl
 have e1:=(ag HR' 1).trans rfl
 have f0:=aC HR' 0
 have f1:=aC HR' 1
 have zu:=ah HR'
 clear hR
 simp only[oas]
 go_wp2
 refine NoPanic.normal ?_
 go_wp2
 refine bodyPost_ret (v:= .agg #[.slice pa pm pc, .slice none 0 0]) (by simp[results,Tryz.results31,go_sem,e0,e1]) rfl ⟨_,rfl, ?_,_,_,rfl, ?_,iJ⟩
 ·exact((ae hW1 hb').setCell (by simp) _).setCell (by simp) _
 ·exact((HP.out.far (by omega)).far (by omega)).mono (by omega)
theorem iv {B:Nat} {w:World} {v:Value} {ps:List Q4} {n:Nat} (h:w.ownsRow B 69 4 v n (ps.flatMap aH)):PlanesV B w v ps:=by
 refine⟨(cN h).1, ?_⟩
 rcases h.2 with⟨rfl,h0⟩|⟨g,cap,cur,rfl,hb,_⟩
 ·exact At.none'
 ·exact At.mk hb
theorem tQ {B:Nat} {W:World} {v:Value} {pls:List (List Q4)} (h:Each W v (PlanesV B) pls):∃(us:List Value) (a:Option Addr) (c:Nat),v= .slice a pls.length c∧us.length=pls.length∧(∀i (h1:i<us.length) (h2:i<pls.length),PlanesV B W us[i] pls[i])∧(a=none→pls=[])∧
  ∀ad,a=some ad→∀j u,us[j]? =some u→W.cell? (ad.add j)=some u:=by
 obtain⟨a,m,c,rfl,hm,hc,hx⟩:=h
 subst hm
 by_cases h0:0<pls.length
 ·obtain⟨b,off,rfl,hi⟩:=hx h0
  refine⟨(List.range pls.length).map fun i=>(W.cell? ⟨b,off+i,none⟩).getD undef,_,c,rfl,by simp,fun i h1 h2=> ?_,fun h=>(by cases h),fun ad had j u hu=> ?_⟩
  ·obtain⟨u,hu,hp⟩:=hi i h2
   simp only[List.getElem_map,List.getElem_range,hu,Option.getD_some]
   exact hp
  ·cases had
   have hj:j<pls.length:=by have:=(List.getElem?_eq_some_iff.1 hu).1;simpa using this
   obtain⟨u',hu',_⟩:=hi j hj
   rw[vp,hu']
   simp[List.getElem?_map,List.getElem?_range hj,hu']at hu
   rw[hu]
 ·have hp:pls=[]:=List.length_eq_zero_iff.1 (by omega)
  subst hp
  exact⟨[],a,c,rfl,rfl,fun i h1=>by simp at h1,fun _=>rfl,fun ad _ j u hu=>by simp at hu⟩
theorem gT:(Tryz.prog.info? 104).map (fun i=>(i.zero,i.size,i.bytes))=some (some (.slice none 0 0),1,24):=by kernel_rfl
theorem gU:Tryz.prog.underlying 72=some (.slice 104):=by kernel_rfl
theorem yk {W:World} {T:TypeId} (v:Value):(W.alloc (.cells #[v] T)).ownsRow W.heap.size T 1 (.slice (some ⟨W.heap.size,0,none⟩) 1 1) 1 [v]:=
 ⟨by simp, .inr ⟨W.heap.size,1,#[v],rfl,Nat.le_refl _,heap_alloc_new W _,Nat.le_refl _,by unfold maxLen;omega,by simp,by simp⟩⟩
theorem tR {w:World} {B:Nat} {v:Value} {us:List Value} {pls:List (List Q4)} {n:Nat} (h:w.ownsRow B 104 1 v n us) (hn:0<n) (hl:us.length=pls.length) (hp:∀i (h1:i<us.length) (h2:i<pls.length),PlanesV 0 w us[i] pls[i]):
  ∃g cap,v= .slice (some ⟨g,0,none⟩) pls.length cap∧vh w 4 g 0 (pls.map (List.flatMap aH)):=by
 have hlen:=h.1
 rcases h.2 with⟨rfl,h0⟩|⟨g,cap,cur,rfl,hb,hh,hnc,hcm,hcs,htk⟩
 ·omega
 ·obtain rfl:n=pls.length:=by omega
  refine⟨g,cap,rfl,fun i hi=> ?_⟩
  have hi':i<pls.length:=by simpa using hi
  have hiu:i<us.length:=by omega
  refine⟨us[i], ?_, ?_⟩
  ·rw[Nat.zero_add,ag hh]
   have e:us[i]? =some us[i]:=List.getElem?_eq_getElem hiu
   generalize us[i]=ui at*
   rw[←htk,List.getElem?_take]at e
   split at e
   ·simpa using e
   ·cases e
  ·rw[List.getElem_map]
   exact(hp i hiu hi').1
theorem nE (cv:Value) (pc:List Q4) (lv:Value) (pls:List (List Q4)) (W:World) (hc:PlanesV 0 W cv pc) (hl:CellsV 0 W lv pls) (h0:0<pls.length) (hn:pls.length≤1000) (hps:(pc::pls).flatten.length≤1000):
  Calls Tryz.prog 77 #[cv,lv] W fun e w'=>∃r n,e= .returned r∧Below W.heap.size W w'∧w'.ownsRow W.heap.size 69 4 r n ((pc::pls).flatten.flatMap aH):=by
 obtain⟨i0,hi0,hz0,hz1,hz2⟩:=info_parts gT
 have Hi0:=Lib.hid (And.intro hi0 (And.intro hz0 (And.intro hz1 hz2)))
 clear hi0 hz0 hz1 hz2
 obtain⟨us,a,c,rfl,hul,hup,hun,huc⟩:=tQ hl.1
 obtain⟨ca,cm,cc,rfl⟩:=fv hc
 have HC:=Lib.hid hc
 have HU:=Lib.hid hup
 have HUC:=Lib.hid huc
 have HUN:=Lib.hid hun
 have hone:∀u∈us,u.oneCell'=true:=fun u hu=>by
  obtain⟨i,hi,rfl⟩:=List.getElem_of_mem hu
  obtain⟨a,m,c,h⟩:=fv (hup i hi (by omega))
  rw[h]
  rfl
 have HON:=Lib.hid hone
 have hfin:∀w1 v1,Below W.heap.size W w1→w1.ownsRow W.heap.size 104 1 v1 (1+pls.length) ([.slice ca cm cc]++us)→
   Hid (Calls Tryz.prog 71 #[v1] w1 fun e w'=>∃r n,e= .returned r∧Below w1.heap.size w1 w'∧w'.ownsRow W.heap.size 69 4 r n ((pc::pls).flatten.flatMap aH)):=fun w1 v1 hb1 ho=>Lib.hid (by
  obtain⟨g,cap,rfl,hp⟩:=tR (pls:=pc::pls) ho (by omega) (by simp[hul]) (fun i h1 h2=>by
   cases i with
   |zero=>exact hc.below hb1
   |succ i=>exact(hup i (by simp at h1;omega) (by simp at h2;omega)).below hb1)
  have e1:((pc::pls).map (List.flatMap aH)).flatten=((pc::pls).flatten).flatMap aH:=by
   generalize pc::pls=ls
   induction ls with
   |nil=>rfl
   |cons x ls ih=>simp only[List.map_cons,List.flatten_cons,List.flatMap_append,ih]
  have hcat:=kW w1 g 0 cap ((pc::pls).map (List.flatMap aH)) hp (by simp) (by simp;omega) (fun cs hcs=>by
   obtain⟨x,_,rfl⟩:=List.mem_map.1 hcs
   exact nw x) (by rw[e1,bh];omega)
  rw[List.length_map]at hcat
  refine hcat.mono ?_
  rintro e w2 ⟨r,m,rfl,hb2,ho2⟩
  rw[e1]at ho2
  exact⟨r,_,rfl,hb2,AY ho2 hb1.size⟩)
 clear hc hup huc hun hone hl hps
 have hW1:Below W.heap.size W (W.alloc (.cells #[.slice ca cm cc] 104)):=bel
 have HO1:=Lib.hid (yk (W:=W) (T:=104) (.slice ca cm cc))
 go_enter Tryz.func77,Tryz.ntmps77
 cases a with
 |none=>
  have hz:=HUN.out rfl
  rw[hz]at h0
  simp at h0
 |some ad=>
  go_wp2_with (at_builtin;refine wpList_append_own _ rfl _ _ 72 rfl W.heap.size 104 i0 (.slice none 0 0) 1 24 gU Hi0.out.1 Hi0.out.2.1 Hi0.out.2.2.1 Hi0.out.2.2.2 rfl (by decide) _ 1 _ rfl HO1.out ad pls.length c us rfl (by omega) ?c1 ?c2 ?c3 ?c4 ?c5 ?_)
  case c1=>
   intro j u hu
   exact ab hW1 (HUC.out ad rfl j u hu)
  case c2=>exact HON.out
  case c3=>unfold maxLen;omega
  case c4=>omega
  case c5=>exact hW1.size
  intro v1 w1 hown1 hg1 _
  have hb1:Below W.heap.size W w1:=hW1.grown hg1 hW1.size (fun z hz=>(HO1.out.lt z hz).1)
  have HF:=Lib.hid ((hfin w1 v1 hb1 hown1).out)
  clear hown1 hg1
  go_wp2_with fail
  refine(HF.out).mono ?_
  rintro e w2 ⟨r,n2,rfl,hb2,hp2⟩
  have HP2:=Lib.hid hp2
  clear hp2
  obtain⟨ra,rc,rfl⟩:=aT HP2.out
  go_wp2
  go_ret
  exact⟨_,_,rfl,ae hb1 hb2,HP2.out⟩
theorem tS (cv:Value) (pc:List Q4) (lv:Value) (pls:List (List Q4)) (W:World) (hc:PlanesV 0 W cv pc) (hl:CellsV 0 W lv pls) (h0:0<pls.length) (hn:pls.length≤1000) (hps:(pc::pls).flatten.length≤1000):
  Calls Tryz.prog 77 #[cv,lv] W fun e w'=>∃r,e= .returned r∧Below W.heap.size W w'∧PlanesV W.heap.size w' r (pc::pls).flatten:=
 (nE cv pc lv pls W hc hl h0 hn hps).mono (by rintro e w' ⟨r,n,rfl,hb,ho⟩;exact⟨r,rfl,hb,iv ho⟩)
end
section
open Go.RowKit Go.Shelf
theorem eI (n:List Int) (k i:Nat):(n.drop k).getD i 0=n.getD (k+i) 0:=by simp[List.getD_eq_getElem?_getD,List.getElem?_drop]
theorem Ints.drop' {W:World} {b off c:Nat} {n:List Int} (k:Nat) (hk:k≤n.length) (hc:n.length≤c) (hat:∀i,i<n.length→W.cell? ⟨b,off+i,none⟩=some (.int .i64 (n.getD i 0))):
  Ints W (.slice (some ⟨b,off+k,none⟩) (n.length-k) (c-k)) (n.drop k):=
 ⟨_,_,_,rfl,by simp,by omega,fun h0=>⟨b,off+k,rfl,fun i hi=>by
  rw[cS _ i hi,eI,Nat.add_assoc]
  exact hat (k+i) (by simp at hi;omega)⟩⟩
theorem Bc {B:Nat} {w:World}:CellsV B w (.slice none 0 0) []:=⟨⟨none,0,0,rfl,rfl,Nat.le_refl _,fun h=>absurd h (by omega)⟩,At.none'⟩
theorem tT {w:World} {B:Nat} {v:Value} {us:List Value} {n:Nat} {cs:List (List Q4)} (h:w.ownsRow B 104 1 v n us) (hl:us.length=cs.length) (hp:∀i (h1:i<us.length) (h2:i<cs.length),PlanesV B w us[i] cs[i]):CellsV B w v cs:=by
 have hlen:=h.1
 rcases h.2 with⟨rfl,h0⟩|⟨g,cap,cur,rfl,hb,hh,hnc,hcm,hcs,htk⟩
 ·subst h0
  obtain rfl:cs=[]:=List.length_eq_zero_iff.1 (by omega)
  exact Bc
 ·refine⟨⟨_,_,_,rfl,by omega,hnc,fun _=>⟨g,0,rfl,fun i hi=> ?_⟩⟩,At.mk hb⟩
  have hiu:i<us.length:=by omega
  refine⟨us[i], ?_,hp i hiu hi⟩
  rw[Nat.zero_add,ag hh]
  have e:us[i]? =some us[i]:=List.getElem?_eq_getElem hiu
  generalize us[i]=ui at*
  rw[←htk,List.getElem?_take]at e
  split at e
  ·simpa using e
  ·cases e
end
end Go.Proofs.YtokhkhnofkcalaaGreatDoor
