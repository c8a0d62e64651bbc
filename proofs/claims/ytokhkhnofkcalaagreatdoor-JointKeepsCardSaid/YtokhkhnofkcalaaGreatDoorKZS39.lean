/- texts: X8 X9 XA. -/
import Derived.Test.YtokhkhnofkcalaaGreatDoorKZS38
namespace Go.Proofs.YtokhkhnofkcalaaGreatDoor
set_option maxHeartbeats 8000000
set_option linter.unusedSimpArgs false
set_option linter.unusedVariables false
section
open Go.RowKit Go.Shelf
set_option maxRecDepth 100000
attribute [local go_sem] Ext.cell Ext.frozen
theorem qk (l w:Int) (nv:Value) (n:List Int) (W:World) (hn:Ints W nv n) (hl:n.length=6) (hb:∀i, -100000≤n.getD i 0∧n.getD i 0≤100000) (hlb: -100000≤l∧l≤100000):
  Calls Tryz.prog 79 #[.int .i64 l,nv] W (gW W (aR 3 l w n) (bR 3 l n)):=by
 obtain⟨b,off,c,rfl,hc,zb,hat⟩:=hn.at' (by omega)
 have hdr:=Ints.drop' (W:=W) 2 (by omega) hc hat
 rw[show n.length-2=4 by omega]at hdr
 obtain⟨ak,hak⟩:∃ak,ak=fu (n.getD 2 0) (n.getD 3 0) (n.getD 4 0) (n.getD 5 0):=⟨_,rfl⟩
 have lak:ak.length=4:=by rw[hak];rfl
 have hA:∀W',Below W.heap.size W W'→Hid (Calls Tryz.prog 78 #[.slice (some ⟨b,off+2,none⟩) 4 (c-2)] W' fun e w'=>∃r,e= .returned r∧Below W'.heap.size W' w'∧FO W'.heap.size ak r w'):=fun W' h=>Lib.hid (by
  have:=qj _ (n.drop 2) W' (hdr.below h) (by simp;omega) (fun i=>by rw[eI];exact hb _)
  rw[hak]
  simpa only[eI]using this)
 have c0:=hat 0 (by omega)
 have c1:=hat 1 (by omega)
 have c2:=hat 2 (by omega)
 have c3:=hat 3 (by omega)
 have c4:=hat 4 (by omega)
 have c5:=hat 5 (by omega)
 rw[Nat.add_zero]at c0
 have b0:=hb 0
 have b1:=hb 1
 have b2:=hb 2
 have b3:=hb 3
 have b4:=hb 4
 have b5:=hb 5
 have hk:aR 3 l w n=[[[[geP 0 (l-n.getD 0 0)],[btP 1 (n.getD 2 0) (n.getD 3 0),btP 2 (n.getD 4 0) (n.getD 5 0)].flatten].flatten],ak++[[[leP 0 (l-n.getD 0 0-n.getD 1 0)],[btP 1 (n.getD 2 0) (n.getD 3 0),btP 2 (n.getD 4 0) (n.getD 5 0)].flatten].flatten]]:=by simp[aR,hak]
 have hg:bR 3 l n=if n.getD 1 0=0 then []else [[btP 0 (l-n.getD 0 0-n.getD 1 0) (l-n.getD 0 0),[btP 1 (n.getD 2 0) (n.getD 3 0),btP 2 (n.getD 4 0) (n.getD 5 0)].flatten].flatten]:=by simp[bR]
 rw[hk,hg]
 rw[hl]at*
 generalize n.getD 0 0=x0 at*
 generalize n.getD 1 0=x1 at*
 generalize n.getD 2 0=x2 at*
 generalize n.getD 3 0=x3 at*
 generalize n.getD 4 0=x4 at*
 generalize n.getD 5 0=x5 at*
 have e1:=fun W'=>Lib.hid (show Calls Tryz.prog 75 #[.int .i64 0, .int .i64 (l-x0)] W' (Ret W' (v4 (geP 0 (l-x0))))from bX 0 (l-x0) W' (by omega) (by omega))
 have e2:=fun W'=>Lib.hid (show Calls Tryz.prog 76 #[.int .i64 0, .int .i64 (l-x0-x1)] W' (Ret W' (v4 (leP 0 (l-x0-x1))))from cR 0 (l-x0-x1) W' (by omega) (by omega))
 have e3:=fun W'=>Lib.hid (bO 1 x2 x3 W' (by omega) (by omega) (by omega))
 have e4:=fun W'=>Lib.hid (bO 2 x4 x5 W' (by omega) (by omega) (by omega))
 have e5:=fun W'=>Lib.hid (show Calls Tryz.prog 72 #[.int .i64 0, .int .i64 (l-x0-x1), .int .i64 (l-x0)] W' _ from bO 0 (l-x0-x1) (l-x0) W' (by omega) (by omega) (by omega))
 have ly:(btP 1 x2 x3).length=2:=rfl
 have lz:(btP 2 x4 x5).length=2:=rfl
 have lg:(btP 0 (l-x0-x1) (l-x0)).length=2:=rfl
 generalize btP 1 x2 x3=py at*
 generalize btP 2 x4 x5=pz at*
 generalize btP 0 (l-x0-x1) (l-x0)=pg at*
 generalize geP 0 (l-x0)=p at*
 generalize leP 0 (l-x0-x1)=q at*
 obtain⟨p1,p2,p3,p4⟩:=p
 obtain⟨q1,q2,q3,q4⟩:=q
 have e6:=fun cv lv W' hc hl=>Lib.hid (bC cv py lv [pz] W' hc hl (by simp) (by simp) (by simp[ly,lz]))
 obtain⟨co,hco⟩:∃co,co=[py,pz].flatten:=⟨_,rfl⟩
 have lc:co.length=4:=by rw[hco];simp[ly,lz]
 rw[←hco]at e6 ⊢
 have e7:=fun cv lv W' hc hl=>Lib.hid (bC cv [(p1,p2,p3,p4)] lv [co] W' hc hl (by simp) (by simp) (by simp[lc]))
 have e8:=fun cv lv W' hc hl=>Lib.hid (bC cv [(q1,q2,q3,q4)] lv [co] W' hc hl (by simp) (by simp) (by simp[lc]))
 have e9:=fun cv lv W' hc hl=>Lib.hid (bC cv pg lv [co] W' hc hl (by simp) (by simp) (by simp[lc,lg]))
 obtain⟨ca,hca⟩:∃ca,ca=[[(p1,p2,p3,p4)],co].flatten:=⟨_,rfl⟩
 obtain⟨cb,hcb⟩:∃cb,cb=[[(q1,q2,q3,q4)],co].flatten:=⟨_,rfl⟩
 obtain⟨cg,hcg⟩:∃cg,cg=[pg,co].flatten:=⟨_,rfl⟩
 rw[←hca]at e7 ⊢
 rw[←hcb]at e8 ⊢
 rw[←hcg]at e9 ⊢
 obtain⟨kb,hkb⟩:∃kb,kb=ak++[cb]:=⟨_,rfl⟩
 have Hkb:=Lib.hid hkb
 rw[←hkb]
 obtain⟨gs,HGS⟩:∃gs,Hid (gs=if x1=0 then []else [cg]):=⟨_,Lib.hid rfl⟩
 rw[←HGS.out]
 have k1:IntKind.i64.wrap (l-x0)=l-x0:=IntWalk.i64_in _ (by omega)
 have k2:IntKind.i64.wrap (l-x0-x1)=l-x0-x1:=IntWalk.i64_in _ (by omega)
 have hc2:c≠2:=by omega
 clear hat hn hl hb hk hg hkb hca hcb hcg hco lc lg ly lz hdr hak
 obtain⟨W1,HW1⟩:∃W1,Hid (W.alloc (.cells #[.slice none 0 0, .slice none 0 0] 75)=W1):=⟨_,Lib.hid rfl⟩
 have hW1:Below W.heap.size W W1:=by rw[←HW1.out];exact bel
 have HR:Hid (W1.heap[W.heap.size]? =some (.cells #[.slice none 0 0, .slice none 0 0] 75 (0,0))):=by rw[←HW1.out];exact Lib.hid (ai rfl)
 have c0:=ab hW1 c0
 have c1:=ab hW1 c1
 have c2:=ab hW1 c2
 have c3:=ab hW1 c3
 have c4:=ab hW1 c4
 have c5:=ab hW1 c5
 have zs:W.heap.size+1≤W1.heap.size:=by rw[←HW1.out];simp
 have zb:=Nat.lt_of_lt_of_le zb hW1.size
 go_enter Tryz.func79,Tryz.ntmps79
 go_wp2
 rw[HW1.out]
 clear HW1
 refine wqf fun u=> ?_
 have c0:=ab u.below c0
 have c1:=ab u.below c1
 have c2:=ab u.below c2
 have c3:=ab u.below c3
 have c4:=ab u.below c4
 have c5:=ab u.below c5
 have HR:=Lib.hid ((u.below.block _ (ah HR.out)).trans HR.out)
 have zb:=Nat.lt_of_lt_of_le zb u.below.size
 have zs:=Nat.le_trans zs u.below.size
 have hW1:=ae hW1 u.below
 generalize u.val=W2 at*
 clear u
 go_wp2
 apply aj [] [0,1,2,3,4,5,6,7,8,9,10,11,12,13,14,15] 16 [] [sv _,sv _,sv _,sv _,sv _,sv _,sPO (W.heap.size+1) py,sv _,sv _,sv _,sv _,sv _,sv _,sPO (W.heap.size+1) pz,sFO (W.heap.size+1) [pz],sPO (W.heap.size+1) co] (by kernel_rfl) (by kernel_rfl)
 iterate 6 ((try go_frame);refine wkQ ?_)
 try go_frame
 refine wkU (fun u hR K hK=> ?_) (fun o6=> ?_)
 ·clear hR
  go_simp
  refine((e3 _).out).mono ?_
  rintro e w9 ⟨v9,rfl,hb9,hp9⟩
  exact hK _ _ hb9 (AY hp9 (by have:=u.size;omega))
 iterate 6 ((try go_frame);refine wkQ ?_)
 try go_frame
 refine wkU (fun u hR K hK=> ?_) (fun o13=> ?_)
 ·clear hR
  go_simp
  refine((e4 _).out).mono ?_
  rintro e w9 ⟨v9,rfl,hb9,hp9⟩
  exact hK _ _ hb9 (AY hp9 (by have:=u.size;omega))
 try go_frame
 refine wkU (fun u hR K hK=> ?_) (fun o14=> ?_)
 ·have h13:(PO (W.heap.size+1) pz) o13 u.val:=hr hR 13
  clear hR
  have zw:=u.size
  obtain⟨ya,yc,rfl⟩:=(h13).shape
  have H1:=Lib.hid h13
  clear h13
  go_simp
  exact hK _ _ bel (bi [_] [_] (by omega) ⟨H1.out,trivial⟩ bel)
 try go_frame
 refine wkU (fun u hR K hK=> ?_) (fun o15=> ?_)
 ·have h6:(PO (W.heap.size+1) py) o6 u.val:=hr hR 6
  have h14:(FO (W.heap.size+1) [pz]) o14 u.val:=hr hR 14
  clear hR
  go_simp
  refine((e6 _ _ _ (h6.planes.mono (Nat.zero_le _)) (h14.2.cells.mono (Nat.zero_le _))).out).mono ?_
  rintro e w9 ⟨v9,rfl,hb9,hp9⟩
  exact hK _ _ hb9 (AY hp9 (by have:=u.size;omega))
 try go_frame
 refine aI (fun u hR=> ?_)
 have HC:Hid (PO (W.heap.size+1) co o15 u.val):=Lib.hid (hR 15 (by simp))
 obtain⟨ra,rc,rfl⟩:=(HC.out).shape
 clear hR
 simp only[oas]
 go_wp2
 refine NoPanic.normal ?_
 have c1:=ab u.below c1
 have HR:=Lib.hid ((u.below.block _ (ah HR.out)).trans HR.out)
 have zb:=Nat.lt_of_lt_of_le zb u.below.size
 have zs:=Nat.le_trans zs u.below.size
 have hW1:=ae hW1 u.below
 clear c0 c2 c3 c4 c5 e3 e4 e6
 generalize u.val=W3 at*
 clear u
 go_wp2
 apply aj [] [0,1,2,3,4,5,6,7,8,9,10,11,12,13,14,15,16,17,18,19,20,21,22] 23 [] [sv _,sv _,sPO (W.heap.size+1) [(p1,p2,p3,p4)],sv _,sFO (W.heap.size+1) [co],sPO (W.heap.size+1) ca,sFO (W.heap.size+1) [ca],sv _,sv _,sFO (W.heap.size+1) ak,sv _,sv _,sv _,sv _,sPO (W.heap.size+1) [(q1,q2,q3,q4)],sv _,sFO (W.heap.size+1) [co],sPO (W.heap.size+1) cb,sFO (W.heap.size+1) [cb],sCO (W.heap.size+1) (kb),sKO (W.heap.size+1) [[ca],kb],⟨KGO (W.heap.size+1) [[ca],kb],by first|exact bT _ _|exact dF _ _|exact bU _ _|exact db _ _|exact dS _ _|exact ar _ _ _⟩,⟨da W3.heap.size 75 #[.slice none 0 0, .slice none 0 0],by first|exact bT _ _|exact dF _ _|exact bU _ _|exact db _ _|exact dS _ _|exact ar _ _ _⟩] (by kernel_rfl) (by kernel_rfl)
 ((try go_frame);refine wkQ ?_)
 try go_frame
 refine wkV ?_
 apply ex3
 ·intro u K hK
  go_simp
  refine((e1 _).out).mono ?_
  rintro e w9 ⟨rfl,hb9⟩
  exact hK _ hb9
 rfl
 try go_frame
 refine wkU (fun u hR K hK=> ?_) (fun o2=> ?_)
 ·clear hR
  have zw:=u.size
  go_simp
  exact hK _ _ bel (cF [(p1,p2,p3,p4)] (by omega))
 ((try go_frame);refine wkQ ?_)
 try go_frame
 refine wkU (fun u hR K hK=> ?_) (fun o4=> ?_)
 ·clear hR
  have zw:=u.size
  have H1:=Lib.hid (bT _ _ _ _ _ u.below HC.out)
  go_simp
  exact hK _ _ bel (bi [_] [_] (by omega) ⟨H1.out,trivial⟩ bel)
 try go_frame
 refine wkU (fun u hR K hK=> ?_) (fun o5=> ?_)
 ·have h2:(PO (W.heap.size+1) [(p1,p2,p3,p4)]) o2 u.val:=hr hR 2
  have h4:(FO (W.heap.size+1) [co]) o4 u.val:=hr hR 4
  clear hR
  go_simp
  refine((e7 _ _ _ (h2.planes.mono (Nat.zero_le _)) (h4.2.cells.mono (Nat.zero_le _))).out).mono ?_
  rintro e w9 ⟨v9,rfl,hb9,hp9⟩
  exact hK _ _ hb9 (AY hp9 (by have:=u.size;omega))
 try go_frame
 refine wkU (fun u hR K hK=> ?_) (fun o6=> ?_)
 ·have h5:(PO (W.heap.size+1) ca) o5 u.val:=hr hR 5
  clear hR
  have zw:=u.size
  obtain⟨ya,yc,rfl⟩:=(h5).shape
  have H1:=Lib.hid h5
  clear h5
  go_simp
  exact hK _ _ bel (bi [_] [_] (by omega) ⟨H1.out,trivial⟩ bel)
 iterate 2 ((try go_frame);refine wkQ ?_)
 try go_frame
 refine wkU (fun u hR K hK=> ?_) (fun o9=> ?_)
 ·clear hR
  go_simp
  refine((hA _ (ae hW1 u.below)).out).mono ?_
  rintro e w9 ⟨v9,rfl,hb9,hp9⟩
  exact hK _ _ hb9 ⟨hp9.1,hp9.2.mono (by have:=u.size;omega)⟩
 iterate 3 ((try go_frame);refine wkQ ?_)
 try go_frame
 refine wkV ?_
 apply ex3
 ·intro u K hK
  go_simp
  refine((e2 _).out).mono ?_
  rintro e w9 ⟨rfl,hb9⟩
  exact hK _ hb9
 rfl
 try go_frame
 refine wkU (fun u hR K hK=> ?_) (fun o14=> ?_)
 ·clear hR
  have zw:=u.size
  go_simp
  exact hK _ _ bel (cF [(q1,q2,q3,q4)] (by omega))
 ((try go_frame);refine wkQ ?_)
 try go_frame
 refine wkU (fun u hR K hK=> ?_) (fun o16=> ?_)
 ·clear hR
  have zw:=u.size
  have H1:=Lib.hid (bT _ _ _ _ _ u.below HC.out)
  go_simp
  exact hK _ _ bel (bi [_] [_] (by omega) ⟨H1.out,trivial⟩ bel)
 try go_frame
 refine wkU (fun u hR K hK=> ?_) (fun o17=> ?_)
 ·have h14:(PO (W.heap.size+1) [(q1,q2,q3,q4)]) o14 u.val:=hr hR 14
  have h16:(FO (W.heap.size+1) [co]) o16 u.val:=hr hR 16
  clear hR
  go_simp
  refine((e8 _ _ _ (h14.planes.mono (Nat.zero_le _)) (h16.2.cells.mono (Nat.zero_le _))).out).mono ?_
  rintro e w9 ⟨v9,rfl,hb9,hp9⟩
  exact hK _ _ hb9 (AY hp9 (by have:=u.size;omega))
 try go_frame
 refine wkU (fun u hR K hK=> ?_) (fun o18=> ?_)
 ·have h17:(PO (W.heap.size+1) cb) o17 u.val:=hr hR 17
  clear hR
  have zw:=u.size
  obtain⟨ya,yc,rfl⟩:=(h17).shape
  have H1:=Lib.hid h17
  clear h17
  go_simp
  exact hK _ _ bel (bi [_] [_] (by omega) ⟨H1.out,trivial⟩ bel)
 try go_frame
 refine wkU (fun u hR K hK=> ?_) (fun o19=> ?_)
 ·have h9:(FO (W.heap.size+1) ak) o9 u.val:=hr hR 9
  have h18:(FO (W.heap.size+1) [cb]) o18 u.val:=hr hR 18
  clear hR
  have zw:=u.size
  obtain⟨v9,w9,hrun,hb9,hc9⟩:=zF (ty:=72) (by omega) h9 h18 (by simp) (by simp;omega)
  exact cZ _ _ 72 rfl hrun (hK _ _ hb9 (by rw[Hkb.out];exact hc9))
 try go_frame
 refine wkU (fun u hR K hK=> ?_) (fun o20=> ?_)
 ·have h6:(FO (W.heap.size+1) [ca]) o6 u.val:=hr hR 6
  have h19:(CO (W.heap.size+1) (kb)) o19 u.val:=hr hR 19
  clear hR
  have zw:=u.size
  obtain⟨ya,yc,rfl⟩:=h6.2.shape
  obtain⟨xa,xc,rfl⟩:=h19.shape
  have H1:=Lib.hid h6.2
  have H2:=Lib.hid h19
  clear h6 h19
  go_simp
  exact hK _ _ bel (kD [_,_] [_,_] (by omega) ⟨H1.out,H2.out,trivial⟩ bel)
 try go_frame
 refine wkU (fun u hR K hK=> ?_) (fun o21=> ?_)
 ·have h20:(KO (W.heap.size+1) [[ca],kb]) o20 u.val:=hr hR 20
  clear hR
  obtain⟨ya,yc,rfl⟩:=(h20).shape
  have H1:=Lib.hid h20
  clear h20
  go_simp
  exact hK _ _ brf ⟨_,rfl,H1.out⟩
 try go_frame
 refine wkU (fun u hR K hK=> ?_) (fun o22=> ?_)
 ·clear hR
  have zw:=u.size
  go_simp
  exact hK _ _ bel ⟨_,rfl,zw,ai rfl⟩
 try go_frame
 refine aI (fun u hR=> ?_)
 obtain⟨ku,rfl,hku⟩:KGO (W.heap.size+1) [[ca],kb] o21 u.val:=hR 21 (by simp)
 obtain⟨ka,kc,rfl⟩:=hku.shape (n:=2)
 obtain⟨g9,rfl,hg9,hh9⟩:da W3.heap.size 75 #[.slice none 0 0, .slice none 0 0] o22 u.val:=hR 22 (by simp)
 have HKU:=Lib.hid (hku.put hh9 (.slice ka 2 kc) (.slice none 0 0))
 have HX:=Lib.hid (nF hh9 (.slice ka 2 kc) (.slice none 0 0))
 have hbX:Below W3.heap.size W3 ((u.val.setCell ⟨g9,0,none⟩ (.slice ka 2 kc)).setCell ⟨g9,1,none⟩ (.slice none 0 0)):=(u.below.setCell (by dsimp only;omega) _).setCell (by dsimp only;omega) _
 obtain⟨d0,d1,df,dz⟩:=dC hh9
 have df0:=df 0
 have df1:=df 1
 clear hR hku hh9 df e1 e2 e7 e8 hA
 simp only[oas]
 go_wp2
 refine NoPanic.normal ?_
 clear d0 d1 df0 df1 dz
 generalize(u.val.setCell ⟨g9,0,none⟩ (.slice ka 2 kc)).setCell ⟨g9,1,none⟩ (.slice none 0 0)=X at*
 clear u
 have HR:=Lib.hid ((hbX.block _ (ah HR.out)).trans HR.out)
 have HC:=Lib.hid (bT _ _ _ _ _ hbX HC.out)
 have hW1:=ae hW1 hbX
 have zs:=Nat.le_trans zs hbX.size
 obtain⟨x0',x1',xf,xz⟩:=dC HX.out
 obtain⟨r0,r1,rf,rz⟩:=dC HR.out
 have xf0:=xf 0
 have xf1:=xf 1
 have rf0:=rf 0
 have rf1:=rf 1
 clear xf rf
 by_cases hz:x1=0
 ·obtain rfl:gs=[]:=by rw[HGS.out,if_pos hz]
  clear HGS
  subst hz
  go_wp2
  refine bodyPost_ret (v:= .agg #[.slice ka 2 kc, .slice none 0 0]) (by simp[results,Tryz.results79,go_sem,r0,r1]) rfl ⟨_,_,rfl, ?_, ?_,Bc⟩
  ·exact(hW1.setCell (by simp) _).setCell (by simp) _
  ·exact((HKU.out.put HR.out _ _).mono (Nat.le_succ _)).parts
 ·obtain rfl:gs=[cg]:=by rw[HGS.out,if_neg hz]
  clear HGS
  have hz1:(x1 !=0)=true:=by simpa using hz
  go_wp2_with fail
  refine((e5 _).out).mono ?_
  rintro e w5 ⟨v5,rfl,hb5,hp5⟩
  have HP5:=Lib.hid hp5
  obtain⟨pa5,pc5,rfl⟩:=hp5.shape
  have HC5:=Lib.hid (bT _ _ _ _ _ hb5 HC.out)
  obtain⟨Y,HY⟩:∃Y,Hid (w5.alloc (.cells #[.slice ra co.length rc] 104)=Y):=⟨_,Lib.hid rfl⟩
  have hbY:Below w5.heap.size w5 Y:=by rw[←HY.out];exact bel
  have HF5:Hid (FO 0 [co] (.slice (some ⟨w5.heap.size,0,none⟩) 1 1) Y):=Lib.hid (by rw[←HY.out];exact bi [_] [_] (Nat.zero_le _) ⟨AY HC5.out (Nat.zero_le _),trivial⟩ bel)
  have H9:=Lib.hid ((e9 _ _ Y ((HP5.out.planes.below hbY).mono (Nat.zero_le _)) HF5.out.2.cells).out)
  clear hp5 e5 e9 x0' x1' r0 r1 xf0 xf1 rf0 rf1
  go_wp2_with fail
  rw[HY.out]
  refine(H9.out).mono ?_
  rintro e w6 ⟨v6,rfl,hb6,hp6⟩
  have HP6:=Lib.hid hp6
  obtain⟨pa6,pc6,rfl⟩:=hp6.shape
  have hb56:=ae hb5 (ae hbY hb6)
  obtain⟨Z,HZ⟩:∃Z,Hid (w6.alloc (.cells #[.slice pa6 cg.length pc6] 104)=Z):=⟨_,Lib.hid rfl⟩
  have hbZ6:Below w6.heap.size w6 Z:=by rw[←HZ.out];exact bel
  have hbZ:=ae hb56 hbZ6
  have hzW:W.heap.size≤Y.heap.size:=Nat.le_trans hW1.size (Nat.le_trans hb5.size hbY.size)
  have HG:Hid (CO W.heap.size [cg] (.slice (some ⟨w6.heap.size,0,none⟩) 1 1) Z):=Lib.hid (by rw[←HZ.out];exact(bi [_] [_] (Nat.le_trans hzW hb6.size) ⟨AY HP6.out hzW,trivial⟩ bel).2)
  have HXZ:=Lib.hid ((hbZ.block _ (ah HX.out)).trans HX.out)
  have HRZ:=Lib.hid ((hbZ.block _ (ah HR.out)).trans HR.out)
  have HKZ:=Lib.hid (db _ _ _ _ _ hbZ HKU.out)
  have hWZ:=ae hW1 hbZ
  have HXS:=Lib.hid (br HXZ.out 1 (.slice (some ⟨w6.heap.size,0,none⟩) 1 1))
  have hgne:g9≠W.heap.size:=by omega
  have HRS:=Lib.hid ((Below.heap_setCell Z ⟨g9,1,none⟩ (.slice (some ⟨w6.heap.size,0,none⟩) 1 1) _ (fun e=>hgne e.symm)).trans HRZ.out)
  clear hp6 H9 HY HF5
  obtain⟨x0',x1',xf,xz⟩:=dC HXZ.out
  obtain⟨y0',y1',yf,yz⟩:=dC HXS.out
  obtain⟨r0,r1,rf,rz⟩:=dC HRS.out
  have xf1:=xf 1
  have rf0:=rf 0
  have rf1:=rf 1
  clear xf rf yf
  have hz9:=HZ.out
  clear HZ
  subst hz9
  go_wp2
  refine bodyPost_ret (v:= .agg #[.slice ka 2 kc, .slice (some ⟨w6.heap.size,0,none⟩) 1 1]) (by simp[results,Tryz.results79,go_sem,r0,r1]) rfl ⟨_,_,rfl, ?_, ?_, ?_⟩
  ·exact((hWZ.setCell (by simp;omega) _).setCell (by simp) _).setCell (by simp) _
  ·exact(((HKZ.out.set HXZ.out (by decide) (by decide) (by decide)).put HRS.out _ _).mono (Nat.le_succ _)).parts
  ·exact((HG.out.set HXZ.out (by decide) (by decide)).put HRS.out _ _).cells
theorem rO (l w:Int) (nv:Value) (n:List Int) (W:World) (hn:Ints W nv n) (hl:n.length=4) (hb:∀i, -100000≤n.getD i 0∧n.getD i 0≤100000) (hlb: -100000≤l∧l≤100000):
  Calls Tryz.prog 80 #[.int .i64 l,nv] W (gW W (aR 4 l w n) (bR 4 l n)):=by
 obtain⟨b,off,c,rfl,hc,zb,hat⟩:=hn.at' (by omega)
 have c0:=hat 0 (by omega)
 have c1:=hat 1 (by omega)
 have c2:=hat 2 (by omega)
 have c3:=hat 3 (by omega)
 rw[Nat.add_zero]at c0
 have b0:=hb 0
 have b1:=hb 1
 have b2:=hb 2
 have b3:=hb 3
 have hk:aR 4 l w n=[[[[geP 0 (l-n.getD 0 0)],btP 2 (n.getD 2 0) (n.getD 3 0)].flatten],[[leP 2 (n.getD 2 0)],[geP 2 (n.getD 3 0)],[[leP 0 (l-n.getD 0 0-n.getD 1 0)],btP 2 (n.getD 2 0) (n.getD 3 0)].flatten]]:=by simp[aR]
 have hg:bR 4 l n=if n.getD 1 0=0 then []else [[btP 0 (l-n.getD 0 0-n.getD 1 0) (l-n.getD 0 0),btP 2 (n.getD 2 0) (n.getD 3 0)].flatten]:=by simp[bR]
 rw[hk,hg]
 rw[hl]at*
 generalize n.getD 0 0=x0 at*
 generalize n.getD 1 0=x1 at*
 generalize n.getD 2 0=x2 at*
 generalize n.getD 3 0=x3 at*
 have e1:=fun W'=>Lib.hid (show Calls Tryz.prog 75 #[.int .i64 0, .int .i64 (l-x0)] W' (Ret W' (v4 (geP 0 (l-x0))))from bX 0 (l-x0) W' (by omega) (by omega))
 have e2:=fun W'=>Lib.hid (show Calls Tryz.prog 76 #[.int .i64 0, .int .i64 (l-x0-x1)] W' (Ret W' (v4 (leP 0 (l-x0-x1))))from cR 0 (l-x0-x1) W' (by omega) (by omega))
 have e3:=fun W'=>Lib.hid (bO 2 x2 x3 W' (by omega) (by omega) (by omega))
 have e5:=fun W'=>Lib.hid (show Calls Tryz.prog 72 #[.int .i64 0, .int .i64 (l-x0-x1), .int .i64 (l-x0)] W' _ from bO 0 (l-x0-x1) (l-x0) W' (by omega) (by omega) (by omega))
 have e4:=fun W'=>Lib.hid (show Calls Tryz.prog 76 #[.int .i64 2, .int .i64 x2] W' (Ret W' (v4 (leP 2 x2)))from cR 2 x2 W' (by omega) (by omega))
 have e6:=fun W'=>Lib.hid (show Calls Tryz.prog 75 #[.int .i64 2, .int .i64 x3] W' (Ret W' (v4 (geP 2 x3)))from bX 2 x3 W' (by omega) (by omega))
 have lz:(btP 2 x2 x3).length=2:=rfl
 have lg:(btP 0 (l-x0-x1) (l-x0)).length=2:=rfl
 generalize btP 0 (l-x0-x1) (l-x0)=pg at*
 generalize geP 0 (l-x0)=p at*
 generalize leP 0 (l-x0-x1)=q at*
 generalize leP 2 x2=s at*
 generalize geP 2 x3=t at*
 obtain⟨p1,p2,p3,p4⟩:=p
 obtain⟨q1,q2,q3,q4⟩:=q
 obtain⟨s1,s2,s3,s4⟩:=s
 obtain⟨t1,t2,t3,t4⟩:=t
 obtain⟨co,hco⟩:∃co,co=btP 2 x2 x3:=⟨_,rfl⟩
 rw[←hco]at e3 lz ⊢
 have e7:=fun cv lv W' hc hl=>Lib.hid (bC cv [(p1,p2,p3,p4)] lv [co] W' hc hl (by simp) (by simp) (by simp[lz]))
 have e8:=fun cv lv W' hc hl=>Lib.hid (bC cv [(q1,q2,q3,q4)] lv [co] W' hc hl (by simp) (by simp) (by simp[lz]))
 have e9:=fun cv lv W' hc hl=>Lib.hid (bC cv pg lv [co] W' hc hl (by simp) (by simp) (by simp[lz,lg]))
 obtain⟨ca,hca⟩:∃ca,ca=[[(p1,p2,p3,p4)],co].flatten:=⟨_,rfl⟩
 obtain⟨cb,hcb⟩:∃cb,cb=[[(q1,q2,q3,q4)],co].flatten:=⟨_,rfl⟩
 obtain⟨cg,hcg⟩:∃cg,cg=[pg,co].flatten:=⟨_,rfl⟩
 rw[←hca]at e7 ⊢
 rw[←hcb]at e8 ⊢
 rw[←hcg]at e9 ⊢
 obtain⟨gs,HGS⟩:∃gs,Hid (gs=if x1=0 then []else [cg]):=⟨_,Lib.hid rfl⟩
 rw[←HGS.out]
 have k1:IntKind.i64.wrap (l-x0)=l-x0:=IntWalk.i64_in _ (by omega)
 have k2:IntKind.i64.wrap (l-x0-x1)=l-x0-x1:=IntWalk.i64_in _ (by omega)
 clear hat hn hl hb hk hg hca hcb hcg hco lg lz
 obtain⟨W1,HW1⟩:∃W1,Hid (W.alloc (.cells #[.slice none 0 0, .slice none 0 0] 75)=W1):=⟨_,Lib.hid rfl⟩
 have hW1:Below W.heap.size W W1:=by rw[←HW1.out];exact bel
 have HR:Hid (W1.heap[W.heap.size]? =some (.cells #[.slice none 0 0, .slice none 0 0] 75 (0,0))):=by rw[←HW1.out];exact Lib.hid (ai rfl)
 have c0:=ab hW1 c0
 have c1:=ab hW1 c1
 have c2:=ab hW1 c2
 have c3:=ab hW1 c3
 have zs:W.heap.size+1≤W1.heap.size:=by rw[←HW1.out];simp
 have zb:=Nat.lt_of_lt_of_le zb hW1.size
 go_enter Tryz.func80,Tryz.ntmps80
 go_wp2
 rw[HW1.out]
 clear HW1
 refine wqf fun u=> ?_
 have c2:=ab u.below c2
 have c3:=ab u.below c3
 have HR:=Lib.hid ((u.below.block _ (ah HR.out)).trans HR.out)
 have zb:=Nat.lt_of_lt_of_le zb u.below.size
 have zs:=Nat.le_trans zs u.below.size
 have hW1:=ae hW1 u.below
 clear c0 c1
 generalize u.val=W2 at*
 clear u
 go_wp2
 apply aj [] [0,1,2,3,4,5,6] 7 [] [sv _,sv _,sv _,sv _,sv _,sv _,sPO (W.heap.size+1) co] (by kernel_rfl) (by kernel_rfl)
 iterate 6 ((try go_frame);refine wkQ ?_)
 try go_frame
 refine wkU (fun u hR K hK=> ?_) (fun o6=> ?_)
 ·clear hR
  go_simp
  refine((e3 _).out).mono ?_
  rintro e w9 ⟨v9,rfl,hb9,hp9⟩
  exact hK _ _ hb9 (AY hp9 (by have:=u.size;omega))
 try go_frame
 refine aI (fun u hR=> ?_)
 have HC:Hid (PO (W.heap.size+1) co o6 u.val):=Lib.hid (hR 6 (by simp))
 obtain⟨ra,rc,rfl⟩:=(HC.out).shape
 clear hR
 simp only[oas]
 go_wp2
 refine NoPanic.normal ?_
 have c2:=ab u.below c2
 have c3:=ab u.below c3
 have HR:=Lib.hid ((u.below.block _ (ah HR.out)).trans HR.out)
 have zb:=Nat.lt_of_lt_of_le zb u.below.size
 have zs:=Nat.le_trans zs u.below.size
 have hW1:=ae hW1 u.below
 clear e3
 generalize u.val=W3 at*
 clear u
 go_wp2
 apply aj [] [0,1,2,3,4,5,6,7,8,9,10,11,12,13,14,15,16,17,18,19,20,21,22,23,24,25,26,27,28] 29 [] [sv _,sv _,sPO (W.heap.size+1) [(p1,p2,p3,p4)],sv _,sFO (W.heap.size+1) [co],sPO (W.heap.size+1) ca,sFO (W.heap.size+1) [ca],sv _,sv _,sv _,sv _,sPO (W.heap.size+1) [(s1,s2,s3,s4)],sv _,sv _,sv _,sv _,sPO (W.heap.size+1) [(t1,t2,t3,t4)],sv _,sv _,sv _,sv _,sPO (W.heap.size+1) [(q1,q2,q3,q4)],sv _,sFO (W.heap.size+1) [co],sPO (W.heap.size+1) cb,sFO (W.heap.size+1) [[(s1,s2,s3,s4)],[(t1,t2,t3,t4)],cb],sKO (W.heap.size+1) [[ca],[[(s1,s2,s3,s4)],[(t1,t2,t3,t4)],cb]],⟨KGO (W.heap.size+1) [[ca],[[(s1,s2,s3,s4)],[(t1,t2,t3,t4)],cb]],by first|exact bT _ _|exact dF _ _|exact bU _ _|exact db _ _|exact dS _ _|exact ar _ _ _⟩,⟨da W3.heap.size 75 #[.slice none 0 0, .slice none 0 0],by first|exact bT _ _|exact dF _ _|exact bU _ _|exact db _ _|exact dS _ _|exact ar _ _ _⟩] (by kernel_rfl) (by kernel_rfl)
 ((try go_frame);refine wkQ ?_)
 try go_frame
 refine wkV ?_
 apply ex3
 ·intro u K hK
  go_simp
  refine((e1 _).out).mono ?_
  rintro e w9 ⟨rfl,hb9⟩
  exact hK _ hb9
 rfl
 try go_frame
 refine wkU (fun u hR K hK=> ?_) (fun o2=> ?_)
 ·clear hR
  have zw:=u.size
  go_simp
  exact hK _ _ bel (cF [(p1,p2,p3,p4)] (by omega))
 ((try go_frame);refine wkQ ?_)
 try go_frame
 refine wkU (fun u hR K hK=> ?_) (fun o4=> ?_)
 ·clear hR
  have zw:=u.size
  have H1:=Lib.hid (bT _ _ _ _ _ u.below HC.out)
  go_simp
  exact hK _ _ bel (bi [_] [_] (by omega) ⟨H1.out,trivial⟩ bel)
 try go_frame
 refine wkU (fun u hR K hK=> ?_) (fun o5=> ?_)
 ·have h2:(PO (W.heap.size+1) [(p1,p2,p3,p4)]) o2 u.val:=hr hR 2
  have h4:(FO (W.heap.size+1) [co]) o4 u.val:=hr hR 4
  clear hR
  go_simp
  refine((e7 _ _ _ (h2.planes.mono (Nat.zero_le _)) (h4.2.cells.mono (Nat.zero_le _))).out).mono ?_
  rintro e w9 ⟨v9,rfl,hb9,hp9⟩
  exact hK _ _ hb9 (AY hp9 (by have:=u.size;omega))
 try go_frame
 refine wkU (fun u hR K hK=> ?_) (fun o6=> ?_)
 ·have h5:(PO (W.heap.size+1) ca) o5 u.val:=hr hR 5
  clear hR
  have zw:=u.size
  obtain⟨ya,yc,rfl⟩:=(h5).shape
  have H1:=Lib.hid h5
  clear h5
  go_simp
  exact hK _ _ bel (bi [_] [_] (by omega) ⟨H1.out,trivial⟩ bel)
 iterate 3 ((try go_frame);refine wkQ ?_)
 try go_frame
 refine wkV ?_
 apply ex3
 ·intro u K hK
  go_simp
  refine((e4 _).out).mono ?_
  rintro e w9 ⟨rfl,hb9⟩
  exact hK _ hb9
 rfl
 try go_frame
 refine wkU (fun u hR K hK=> ?_) (fun o11=> ?_)
 ·clear hR
  have zw:=u.size
  go_simp
  exact hK _ _ bel (cF [(s1,s2,s3,s4)] (by omega))
 iterate 3 ((try go_frame);refine wkQ ?_)
 try go_frame
 refine wkV ?_
 apply ex3
 ·intro u K hK
  go_simp
  refine((e6 _).out).mono ?_
  rintro e w9 ⟨rfl,hb9⟩
  exact hK _ hb9
 rfl
 try go_frame
 refine wkU (fun u hR K hK=> ?_) (fun o16=> ?_)
 ·clear hR
  have zw:=u.size
  go_simp
  exact hK _ _ bel (cF [(t1,t2,t3,t4)] (by omega))
 iterate 3 ((try go_frame);refine wkQ ?_)
 try go_frame
 refine wkV ?_
 apply ex3
 ·intro u K hK
  go_simp
  refine((e2 _).out).mono ?_
  rintro e w9 ⟨rfl,hb9⟩
  exact hK _ hb9
 rfl
 try go_frame
 refine wkU (fun u hR K hK=> ?_) (fun o21=> ?_)
 ·clear hR
  have zw:=u.size
  go_simp
  exact hK _ _ bel (cF [(q1,q2,q3,q4)] (by omega))
 ((try go_frame);refine wkQ ?_)
 try go_frame
 refine wkU (fun u hR K hK=> ?_) (fun o23=> ?_)
 ·clear hR
  have zw:=u.size
  have H1:=Lib.hid (bT _ _ _ _ _ u.below HC.out)
  go_simp
  exact hK _ _ bel (bi [_] [_] (by omega) ⟨H1.out,trivial⟩ bel)
 try go_frame
 refine wkU (fun u hR K hK=> ?_) (fun o24=> ?_)
 ·have h21:(PO (W.heap.size+1) [(q1,q2,q3,q4)]) o21 u.val:=hr hR 21
  have h23:(FO (W.heap.size+1) [co]) o23 u.val:=hr hR 23
  clear hR
  go_simp
  refine((e8 _ _ _ (h21.planes.mono (Nat.zero_le _)) (h23.2.cells.mono (Nat.zero_le _))).out).mono ?_
  rintro e w9 ⟨v9,rfl,hb9,hp9⟩
  exact hK _ _ hb9 (AY hp9 (by have:=u.size;omega))
 try go_frame
 refine wkU (fun u hR K hK=> ?_) (fun o25=> ?_)
 ·have h11:(PO (W.heap.size+1) [(s1,s2,s3,s4)]) o11 u.val:=hr hR 11
  have h16:(PO (W.heap.size+1) [(t1,t2,t3,t4)]) o16 u.val:=hr hR 16
  have h24:(PO (W.heap.size+1) cb) o24 u.val:=hr hR 24
  clear hR
  have zw:=u.size
  obtain⟨ya,yc,rfl⟩:=h11.shape
  obtain⟨ua,uc,rfl⟩:=h16.shape
  obtain⟨va,vc,rfl⟩:=h24.shape
  have H4:=Lib.hid h11
  have H9:=Lib.hid h16
  have H17:=Lib.hid h24
  clear h11 h16 h24
  go_simp
  exact hK _ _ bel (bi [_,_,_] [_,_,_] (by omega) ⟨H4.out,H9.out,H17.out,trivial⟩ bel)
 try go_frame
 refine wkU (fun u hR K hK=> ?_) (fun o26=> ?_)
 ·have h6:(FO (W.heap.size+1) [ca]) o6 u.val:=hr hR 6
  have h25:(FO (W.heap.size+1) [[(s1,s2,s3,s4)],[(t1,t2,t3,t4)],cb]) o25 u.val:=hr hR 25
  clear hR
  have zw:=u.size
  obtain⟨ya,yc,rfl⟩:=h6.2.shape
  obtain⟨xa,xc,rfl⟩:=h25.2.shape
  have H1:=Lib.hid h6.2
  have H2:=Lib.hid h25.2
  clear h6 h25
  go_simp
  exact hK _ _ bel (kD [_,_] [_,_] (by omega) ⟨H1.out,H2.out,trivial⟩ bel)
 try go_frame
 refine wkU (fun u hR K hK=> ?_) (fun o27=> ?_)
 ·have h26:(KO (W.heap.size+1) [[ca],[[(s1,s2,s3,s4)],[(t1,t2,t3,t4)],cb]]) o26 u.val:=hr hR 26
  clear hR
  obtain⟨ya,yc,rfl⟩:=(h26).shape
  have H1:=Lib.hid h26
  clear h26
  go_simp
  exact hK _ _ brf ⟨_,rfl,H1.out⟩
 try go_frame
 refine wkU (fun u hR K hK=> ?_) (fun o28=> ?_)
 ·clear hR
  have zw:=u.size
  go_simp
  exact hK _ _ bel ⟨_,rfl,zw,ai rfl⟩
 try go_frame
 refine aI (fun u hR=> ?_)
 obtain⟨ku,rfl,hku⟩:KGO (W.heap.size+1) [[ca],[[(s1,s2,s3,s4)],[(t1,t2,t3,t4)],cb]] o27 u.val:=hR 27 (by simp)
 obtain⟨ka,kc,rfl⟩:=hku.shape (n:=2)
 obtain⟨g9,rfl,hg9,hh9⟩:da W3.heap.size 75 #[.slice none 0 0, .slice none 0 0] o28 u.val:=hR 28 (by simp)
 have HKU:=Lib.hid (hku.put hh9 (.slice ka 2 kc) (.slice none 0 0))
 have HX:=Lib.hid (nF hh9 (.slice ka 2 kc) (.slice none 0 0))
 have hbX:Below W3.heap.size W3 ((u.val.setCell ⟨g9,0,none⟩ (.slice ka 2 kc)).setCell ⟨g9,1,none⟩ (.slice none 0 0)):=(u.below.setCell (by dsimp only;omega) _).setCell (by dsimp only;omega) _
 obtain⟨d0,d1,df,dz⟩:=dC hh9
 have df0:=df 0
 have df1:=df 1
 clear hR hku hh9 df e1 e2 e4 e6 e7 e8
 simp only[oas]
 go_wp2
 refine NoPanic.normal ?_
 clear d0 d1 df0 df1 dz
 generalize(u.val.setCell ⟨g9,0,none⟩ (.slice ka 2 kc)).setCell ⟨g9,1,none⟩ (.slice none 0 0)=X at*
 clear u
 have HR:=Lib.hid ((hbX.block _ (ah HR.out)).trans HR.out)
 have HC:=Lib.hid (bT _ _ _ _ _ hbX HC.out)
 have hW1:=ae hW1 hbX
 have zs:=Nat.le_trans zs hbX.size
 obtain⟨x0',x1',xf,xz⟩:=dC HX.out
 obtain⟨r0,r1,rf,rz⟩:=dC HR.out
 have xf0:=xf 0
 have xf1:=xf 1
 have rf0:=rf 0
 have rf1:=rf 1
 clear xf rf
 by_cases hz:x1=0
 ·obtain rfl:gs=[]:=by rw[HGS.out,if_pos hz]
  clear HGS
  subst hz
  go_wp2
  refine bodyPost_ret (v:= .agg #[.slice ka 2 kc, .slice none 0 0]) (by simp[results,Tryz.results80,go_sem,r0,r1]) rfl ⟨_,_,rfl, ?_, ?_,Bc⟩
  ·exact(hW1.setCell (by simp) _).setCell (by simp) _
  ·exact((HKU.out.put HR.out _ _).mono (Nat.le_succ _)).parts
 ·obtain rfl:gs=[cg]:=by rw[HGS.out,if_neg hz]
  clear HGS
  have hz1:(x1 !=0)=true:=by simpa using hz
  go_wp2_with fail
  refine((e5 _).out).mono ?_
  rintro e w5 ⟨v5,rfl,hb5,hp5⟩
  have HP5:=Lib.hid hp5
  obtain⟨pa5,pc5,rfl⟩:=hp5.shape
  have HC5:=Lib.hid (bT _ _ _ _ _ hb5 HC.out)
  obtain⟨Y,HY⟩:∃Y,Hid (w5.alloc (.cells #[.slice ra co.length rc] 104)=Y):=⟨_,Lib.hid rfl⟩
  have hbY:Below w5.heap.size w5 Y:=by rw[←HY.out];exact bel
  have HF5:Hid (FO 0 [co] (.slice (some ⟨w5.heap.size,0,none⟩) 1 1) Y):=Lib.hid (by rw[←HY.out];exact bi [_] [_] (Nat.zero_le _) ⟨AY HC5.out (Nat.zero_le _),trivial⟩ bel)
  have H9:=Lib.hid ((e9 _ _ Y ((HP5.out.planes.below hbY).mono (Nat.zero_le _)) HF5.out.2.cells).out)
  clear hp5 e5 e9 x0' x1' r0 r1 xf0 xf1 rf0 rf1
  go_wp2_with fail
  rw[HY.out]
  refine(H9.out).mono ?_
  rintro e w6 ⟨v6,rfl,hb6,hp6⟩
  have HP6:=Lib.hid hp6
  obtain⟨pa6,pc6,rfl⟩:=hp6.shape
  have hb56:=ae hb5 (ae hbY hb6)
  obtain⟨Z,HZ⟩:∃Z,Hid (w6.alloc (.cells #[.slice pa6 cg.length pc6] 104)=Z):=⟨_,Lib.hid rfl⟩
  have hbZ6:Below w6.heap.size w6 Z:=by rw[←HZ.out];exact bel
  have hbZ:=ae hb56 hbZ6
  have hzW:W.heap.size≤Y.heap.size:=Nat.le_trans hW1.size (Nat.le_trans hb5.size hbY.size)
  have HG:Hid (CO W.heap.size [cg] (.slice (some ⟨w6.heap.size,0,none⟩) 1 1) Z):=Lib.hid (by rw[←HZ.out];exact(bi [_] [_] (Nat.le_trans hzW hb6.size) ⟨AY HP6.out hzW,trivial⟩ bel).2)
  have HXZ:=Lib.hid ((hbZ.block _ (ah HX.out)).trans HX.out)
  have HRZ:=Lib.hid ((hbZ.block _ (ah HR.out)).trans HR.out)
  have HKZ:=Lib.hid (db _ _ _ _ _ hbZ HKU.out)
  have hWZ:=ae hW1 hbZ
  have HXS:=Lib.hid (br HXZ.out 1 (.slice (some ⟨w6.heap.size,0,none⟩) 1 1))
  have hgne:g9≠W.heap.size:=by omega
  have HRS:=Lib.hid ((Below.heap_setCell Z ⟨g9,1,none⟩ (.slice (some ⟨w6.heap.size,0,none⟩) 1 1) _ (fun e=>hgne e.symm)).trans HRZ.out)
  clear hp6 H9 HY HF5
  obtain⟨x0',x1',xf,xz⟩:=dC HXZ.out
  obtain⟨y0',y1',yf,yz⟩:=dC HXS.out
  obtain⟨r0,r1,rf,rz⟩:=dC HRS.out
  have xf1:=xf 1
  have rf0:=rf 0
  have rf1:=rf 1
  clear xf rf yf
  have hz9:=HZ.out
  clear HZ
  subst hz9
  go_wp2
  refine bodyPost_ret (v:= .agg #[.slice ka 2 kc, .slice (some ⟨w6.heap.size,0,none⟩) 1 1]) (by simp[results,Tryz.results80,go_sem,r0,r1]) rfl ⟨_,_,rfl, ?_, ?_, ?_⟩
  ·exact((hWZ.setCell (by simp;omega) _).setCell (by simp) _).setCell (by simp) _
  ·exact(((HKZ.out.set HXZ.out (by decide) (by decide) (by decide)).put HRS.out _ _).mono (Nat.le_succ _)).parts
  ·exact((HG.out.set HXZ.out (by decide) (by decide)).put HRS.out _ _).cells
theorem tX (p:Q4) (b off c gn gx:Nat) (xa:Option Addr) (xn xc:Nat) (x0 x1 x2 x3:Int) (W:World) (hb0: -100000≤x0∧x0≤100000) (hb1: -100000≤x1∧x1≤100000) (hb2: -100000≤x2∧x2≤100000) (hb3: -100000≤x3∧x3≤100000)
  (cn:W.cell? ⟨gn,0,none⟩=some (.slice (some ⟨b,off,none⟩) 5 c)) (cx:W.cell? ⟨gx,0,none⟩=some (.slice xa xn xc)) (hx:PO 0 (btP 0 x0 x1) (.slice xa xn xc) W)
  (c1:W.cell? ⟨b,off+1,none⟩=some (.int .i64 x0)) (c2:W.cell? ⟨b,off+2,none⟩=some (.int .i64 x1)) (c3:W.cell? ⟨b,off+3,none⟩=some (.int .i64 x2)) (c4:W.cell? ⟨b,off+4,none⟩=some (.int .i64 x3)):
  Calls Tryz.prog 127 #[v4 p, .pointer (some ⟨gn,0,none⟩), .pointer (some ⟨gx,0,none⟩)] W fun e w'=>∃r,e= .returned r∧Below W.heap.size W w'∧FO W.heap.size (gS x0 x1 x2 x3 p) r w':=by
 have hk:gS x0 x1 x2 x3 p=[[[p],[leP 0 x0]].flatten,[[p],[geP 0 x1]].flatten,[[p],btP 0 x0 x1,[leP 1 x2]].flatten,[[p],btP 0 x0 x1,[geP 1 x3]].flatten]:=by simp[gS]
 rw[hk]
 have e1:=fun W'=>Lib.hid (show Calls Tryz.prog 76 #[.int .i64 0, .int .i64 x0] W' (Ret W' (v4 (leP 0 x0)))from cR 0 x0 W' (by omega) (by omega))
 have e2:=fun W'=>Lib.hid (show Calls Tryz.prog 75 #[.int .i64 0, .int .i64 x1] W' (Ret W' (v4 (geP 0 x1)))from bX 0 x1 W' (by omega) (by omega))
 have e3:=fun W'=>Lib.hid (show Calls Tryz.prog 76 #[.int .i64 1, .int .i64 x2] W' (Ret W' (v4 (leP 1 x2)))from cR 1 x2 W' (by omega) (by omega))
 have e4:=fun W'=>Lib.hid (show Calls Tryz.prog 75 #[.int .i64 1, .int .i64 x3] W' (Ret W' (v4 (geP 1 x3)))from bX 1 x3 W' (by omega) (by omega))
 have lx:(btP 0 x0 x1).length=2:=rfl
 generalize btP 0 x0 x1=px at*
 generalize leP 0 x0=q at*
 generalize geP 0 x1=r at*
 generalize leP 1 x2=s at*
 generalize geP 1 x3=t at*
 obtain⟨p1,p2,p3,p4⟩:=p
 obtain⟨q1,q2,q3,q4⟩:=q
 obtain⟨r1,r2,r3,r4⟩:=r
 obtain⟨s1,s2,s3,s4⟩:=s
 obtain⟨t1,t2,t3,t4⟩:=t
 have e5:=fun cv lv W' hc hl=>Lib.hid (bC cv [(p1,p2,p3,p4)] lv [[(q1,q2,q3,q4)]] W' hc hl (by simp) (by simp) (by simp))
 have e6:=fun cv lv W' hc hl=>Lib.hid (bC cv [(p1,p2,p3,p4)] lv [[(r1,r2,r3,r4)]] W' hc hl (by simp) (by simp) (by simp))
 have e7:=fun cv lv W' hc hl=>Lib.hid (bC cv [(p1,p2,p3,p4)] lv [px,[(s1,s2,s3,s4)]] W' hc hl (by simp) (by simp) (by simp[lx]))
 have e8:=fun cv lv W' hc hl=>Lib.hid (bC cv [(p1,p2,p3,p4)] lv [px,[(t1,t2,t3,t4)]] W' hc hl (by simp) (by simp) (by simp[lx]))
 obtain⟨a5,ha5⟩:∃a5,a5=[[(p1,p2,p3,p4)],[(q1,q2,q3,q4)]].flatten:=⟨_,rfl⟩
 obtain⟨a6,ha6⟩:∃a6,a6=[[(p1,p2,p3,p4)],[(r1,r2,r3,r4)]].flatten:=⟨_,rfl⟩
 obtain⟨a7,ha7⟩:∃a7,a7=[[(p1,p2,p3,p4)],px,[(s1,s2,s3,s4)]].flatten:=⟨_,rfl⟩
 obtain⟨a8,ha8⟩:∃a8,a8=[[(p1,p2,p3,p4)],px,[(t1,t2,t3,t4)]].flatten:=⟨_,rfl⟩
 rw[←ha5]at e5 ⊢
 rw[←ha6]at e6 ⊢
 rw[←ha7]at e7 ⊢
 rw[←ha8]at e8 ⊢
 obtain⟨W1,HW1⟩:∃W1,Hid ((W.alloc (.cells #[.int .i64 p1, .int .i64 p2, .int .i64 p3, .int .i64 p4] 69)).alloc (.cells #[.int .i64 p1, .int .i64 p2, .int .i64 p3, .int .i64 p4] 69)=W1):=⟨_,Lib.hid rfl⟩
 have hW1:Below W.heap.size W W1:=by rw[←HW1.out];exact bel
 have HP:Hid (PO W.heap.size [(p1,p2,p3,p4)] (.slice (some ⟨W.heap.size+1,0,none⟩) 1 1) W1):=Lib.hid (by
  rw[←HW1.out]
  exact jO [(p1,p2,p3,p4)] (by simp) (by simp))
 have HX:=Lib.hid (bT _ _ _ _ _ hW1 hx)
 have cn:=ab hW1 cn
 have cx:=ab hW1 cx
 have c1:=ab hW1 c1
 have c2:=ab hW1 c2
 have c3:=ab hW1 c3
 have c4:=ab hW1 c4
 have zb:=World.block_lt_of_cell? W1 _ c1
 have zn:=World.block_lt_of_cell? W1 _ cn
 have zx:=World.block_lt_of_cell? W1 _ cx
 simp only at zb zn zx
 have zs:=hW1.size
 clear hk ha5 ha6 ha7 ha8 lx hx
 go_enter Tryz.func127,Tryz.ntmps127
 go_wp2
 rw[HW1.out]
 clear HW1
 apply aj [] [0,1,2,3,4,5,6,7,8,9,10,11,12,13,14,15,16,17,18,19,20,21,22,23,24,25,26,27,28,29,30,31,32,33,34] 35 [] [sv _,sv _,sv _,sv _,sv _,sPO W.heap.size [(q1,q2,q3,q4)],sFO W.heap.size [[(q1,q2,q3,q4)]],sPO W.heap.size a5,sv _,sv _,sv _,sv _,sv _,sPO W.heap.size [(r1,r2,r3,r4)],sFO W.heap.size [[(r1,r2,r3,r4)]],sPO W.heap.size a6,sv _,sv _,sv _,sv _,sv _,sv _,sPO W.heap.size [(s1,s2,s3,s4)],sFO 0 [px,[(s1,s2,s3,s4)]],sPO W.heap.size a7,sv _,sv _,sv _,sv _,sv _,sv _,sPO W.heap.size [(t1,t2,t3,t4)],sFO 0 [px,[(t1,t2,t3,t4)]],sPO W.heap.size a8,sFO W.heap.size [a5,a6,a7,a8]] (by kernel_rfl) (by kernel_rfl)
 iterate 4 ((try go_frame);refine wkQ ?_)
 try go_frame
 refine wkV ?_
 apply ex3
 ·intro u K hK
  go_simp
  refine((e1 _).out).mono ?_
  rintro e w9 ⟨rfl,hb9⟩
  exact hK _ hb9
 rfl
 try go_frame
 refine wkU (fun u hR K hK=> ?_) (fun o5=> ?_)
 ·clear hR
  have zw:=u.size
  go_simp
  exact hK _ _ bel (cF [(q1,q2,q3,q4)] (by omega))
 try go_frame
 refine wkU (fun u hR K hK=> ?_) (fun o6=> ?_)
 ·have h5:(PO W.heap.size [(q1,q2,q3,q4)]) o5 u.val:=hr hR 5
  clear hR
  have zw:=u.size
  obtain⟨ya,yc,rfl⟩:=(h5).shape
  have H1:=Lib.hid h5
  clear h5
  go_simp
  exact hK _ _ bel (bi [_] [_] (by omega) ⟨H1.out,trivial⟩ bel)
 try go_frame
 refine wkU (fun u hR K hK=> ?_) (fun o7=> ?_)
 ·have h6:(FO W.heap.size [[(q1,q2,q3,q4)]]) o6 u.val:=hr hR 6
  clear hR
  go_simp
  refine((e5 _ _ _ ((HP.out.planes.below u.below).mono (Nat.zero_le _)) (h6.2.cells.mono (Nat.zero_le _))).out).mono ?_
  rintro e w9 ⟨v9,rfl,hb9,hp9⟩
  exact hK _ _ hb9 (AY hp9 (by have:=u.size;omega))
 iterate 4 ((try go_frame);refine wkQ ?_)
 try go_frame
 refine wkV ?_
 apply ex3
 ·intro u K hK
  go_simp
  refine((e2 _).out).mono ?_
  rintro e w9 ⟨rfl,hb9⟩
  exact hK _ hb9
 rfl
 try go_frame
 refine wkU (fun u hR K hK=> ?_) (fun o13=> ?_)
 ·clear hR
  have zw:=u.size
  go_simp
  exact hK _ _ bel (cF [(r1,r2,r3,r4)] (by omega))
 try go_frame
 refine wkU (fun u hR K hK=> ?_) (fun o14=> ?_)
 ·have h13:(PO W.heap.size [(r1,r2,r3,r4)]) o13 u.val:=hr hR 13
  clear hR
  have zw:=u.size
  obtain⟨ya,yc,rfl⟩:=(h13).shape
  have H1:=Lib.hid h13
  clear h13
  go_simp
  exact hK _ _ bel (bi [_] [_] (by omega) ⟨H1.out,trivial⟩ bel)
 try go_frame
 refine wkU (fun u hR K hK=> ?_) (fun o15=> ?_)
 ·have h14:(FO W.heap.size [[(r1,r2,r3,r4)]]) o14 u.val:=hr hR 14
  clear hR
  go_simp
  refine((e6 _ _ _ ((HP.out.planes.below u.below).mono (Nat.zero_le _)) (h14.2.cells.mono (Nat.zero_le _))).out).mono ?_
  rintro e w9 ⟨v9,rfl,hb9,hp9⟩
  exact hK _ _ hb9 (AY hp9 (by have:=u.size;omega))
 iterate 5 ((try go_frame);refine wkQ ?_)
 try go_frame
 refine wkV ?_
 apply ex3
 ·intro u K hK
  go_simp
  refine((e3 _).out).mono ?_
  rintro e w9 ⟨rfl,hb9⟩
  exact hK _ hb9
 rfl
 try go_frame
 refine wkU (fun u hR K hK=> ?_) (fun o22=> ?_)
 ·clear hR
  have zw:=u.size
  go_simp
  exact hK _ _ bel (cF [(s1,s2,s3,s4)] (by omega))
 try go_frame
 refine wkU (fun u hR K hK=> ?_) (fun o23=> ?_)
 ·have h22:(PO W.heap.size [(s1,s2,s3,s4)]) o22 u.val:=hr hR 22
  clear hR
  have h22:=h22.mono (Nat.zero_le _)
  have zw:=u.size
  obtain⟨xa,xc,rfl⟩:=(h22).shape
  have H1:=Lib.hid (bT _ _ _ _ _ u.below HX.out)
  have H2:=Lib.hid h22
  clear h22
  go_simp
  exact hK _ _ bel (bi [_,_] [_,_] (by omega) ⟨H1.out,H2.out,trivial⟩ bel)
 try go_frame
 refine wkU (fun u hR K hK=> ?_) (fun o24=> ?_)
 ·have h23:(FO 0 [px,[(s1,s2,s3,s4)]]) o23 u.val:=hr hR 23
  clear hR
  go_simp
  refine((e7 _ _ _ ((HP.out.planes.below u.below).mono (Nat.zero_le _)) h23.2.cells).out).mono ?_
  rintro e w9 ⟨v9,rfl,hb9,hp9⟩
  exact hK _ _ hb9 (AY hp9 (by have:=u.size;omega))
 iterate 5 ((try go_frame);refine wkQ ?_)
 try go_frame
 refine wkV ?_
 apply ex3
 ·intro u K hK
  go_simp
  refine((e4 _).out).mono ?_
  rintro e w9 ⟨rfl,hb9⟩
  exact hK _ hb9
 rfl
 try go_frame
 refine wkU (fun u hR K hK=> ?_) (fun o31=> ?_)
 ·clear hR
  have zw:=u.size
  go_simp
  exact hK _ _ bel (cF [(t1,t2,t3,t4)] (by omega))
 try go_frame
 refine wkU (fun u hR K hK=> ?_) (fun o32=> ?_)
 ·have h31:(PO W.heap.size [(t1,t2,t3,t4)]) o31 u.val:=hr hR 31
  clear hR
  have h31:=h31.mono (Nat.zero_le _)
  have zw:=u.size
  obtain⟨xa,xc,rfl⟩:=(h31).shape
  have H1:=Lib.hid (bT _ _ _ _ _ u.below HX.out)
  have H2:=Lib.hid h31
  clear h31
  go_simp
  exact hK _ _ bel (bi [_,_] [_,_] (by omega) ⟨H1.out,H2.out,trivial⟩ bel)
 try go_frame
 refine wkU (fun u hR K hK=> ?_) (fun o33=> ?_)
 ·have h32:(FO 0 [px,[(t1,t2,t3,t4)]]) o32 u.val:=hr hR 32
  clear hR
  go_simp
  refine((e8 _ _ _ ((HP.out.planes.below u.below).mono (Nat.zero_le _)) h32.2.cells).out).mono ?_
  rintro e w9 ⟨v9,rfl,hb9,hp9⟩
  exact hK _ _ hb9 (AY hp9 (by have:=u.size;omega))
 try go_frame
 refine wkU (fun u hR K hK=> ?_) (fun o34=> ?_)
 ·have h7:(PO W.heap.size a5) o7 u.val:=hr hR 7
  have h15:(PO W.heap.size a6) o15 u.val:=hr hR 15
  have h24:(PO W.heap.size a7) o24 u.val:=hr hR 24
  have h33:(PO W.heap.size a8) o33 u.val:=hr hR 33
  clear hR
  have zw:=u.size
  obtain⟨ya,yc,rfl⟩:=h7.shape
  obtain⟨ua,uc,rfl⟩:=h15.shape
  obtain⟨va,vc,rfl⟩:=h24.shape
  obtain⟨xa,xc,rfl⟩:=h33.shape
  have H4:=Lib.hid h7
  have H9:=Lib.hid h15
  have H17:=Lib.hid h24
  have H25:=Lib.hid h33
  clear h7 h15 h24 h33
  go_simp
  exact hK _ _ bel (bi [_,_,_,_] [_,_,_,_] (by omega) ⟨H4.out,H9.out,H17.out,H25.out,trivial⟩ bel)
 try go_frame
 refine aI (fun u hR=> ?_)
 have HF:Hid (FO W.heap.size [a5,a6,a7,a8] o34 u.val):=Lib.hid (hR 34 (by simp))
 have hb1:=ae hW1 u.below
 clear hR
 generalize u.val=w9 at*
 clear u
 simp only[oas]
 go_wp2
 refine NoPanic.normal ?_
 go_wp2
 go_ret
 exact⟨_,rfl,hb1,HF.out⟩
theorem ql (l w:Int) (nv:Value) (n:List Int) (W:World) (hn:Ints W nv n) (hl:n.length=5) (hb:∀i, -100000≤n.getD i 0∧n.getD i 0≤100000):
  Calls Tryz.prog 86 #[nv] W (gW W (aR 10 l w n) (bR 10 l n)):=by
 obtain⟨b,off,c,rfl,hc,zb,hat⟩:=hn.at' (by omega)
 have c0:=hat 0 (by omega)
 have c1:=hat 1 (by omega)
 have c2:=hat 2 (by omega)
 have c3:=hat 3 (by omega)
 have c4:=hat 4 (by omega)
 rw[Nat.add_zero]at c0
 have b0:=hb 0
 have b1:=hb 1
 have b2:=hb 2
 have b3:=hb 3
 have b4:=hb 4
 have hk:aR 10 l w n=[gS (n.getD 1 0) (n.getD 2 0) (n.getD 3 0) (n.getD 4 0) (geP 2 (n.getD 0 0)),gS (n.getD 1 0) (n.getD 2 0) (n.getD 3 0) (n.getD 4 0) (leP 2 (n.getD 0 0)),[[btP 0 (n.getD 1 0) (n.getD 2 0),btP 1 (n.getD 3 0) (n.getD 4 0)].flatten]]:=by simp[aR]
 have hg:bR 10 l n=[]:=by simp[bR]
 rw[hk,hg]
 rw[hl]at*
 generalize n.getD 0 0=x0 at*
 generalize n.getD 1 0=x1 at*
 generalize n.getD 2 0=x2 at*
 generalize n.getD 3 0=x3 at*
 generalize n.getD 4 0=x4 at*
 have e1:=fun W'=>Lib.hid (show Calls Tryz.prog 75 #[.int .i64 2, .int .i64 x0] W' (Ret W' (v4 (geP 2 x0)))from bX 2 x0 W' (by omega) (by omega))
 have e2:=fun W'=>Lib.hid (show Calls Tryz.prog 76 #[.int .i64 2, .int .i64 x0] W' (Ret W' (v4 (leP 2 x0)))from cR 2 x0 W' (by omega) (by omega))
 have e3:=fun W'=>Lib.hid (bO 0 x1 x2 W' (by omega) (by omega) (by omega))
 have e4:=fun W'=>Lib.hid (bO 1 x3 x4 W' (by omega) (by omega) (by omega))
 have hL:=fun p gn gx xa xn xc W' cn cx hx c1 c2 c3 c4=>Lib.hid (tX p b off c gn gx xa xn xc x1 x2 x3 x4 W' b1 b2 b3 b4 cn cx hx c1 c2 c3 c4)
 have lx:(btP 0 x1 x2).length=2:=rfl
 have ly:(btP 1 x3 x4).length=2:=rfl
 generalize btP 0 x1 x2=px at*
 generalize btP 1 x3 x4=py at*
 have e5:=fun cv lv W' hc hl=>Lib.hid (bC cv px lv [py] W' hc hl (by simp) (by simp) (by simp[lx,ly]))
 obtain⟨a5,ha5⟩:∃a5,a5=[px,py].flatten:=⟨_,rfl⟩
 rw[←ha5]at e5 ⊢
 generalize geP 2 x0=p at*
 generalize leP 2 x0=q at*
 have hL1:=hL p
 have hL2:=hL q
 generalize gS x1 x2 x3 x4 p=K1 at*
 generalize gS x1 x2 x3 x4 q=K2 at*
 obtain⟨p1,p2,p3,p4⟩:=p
 obtain⟨q1,q2,q3,q4⟩:=q
 obtain⟨V,HV⟩:∃V,Hid ((W.alloc (.cells #[.slice (some ⟨b,off,none⟩) 5 c] 23)).alloc (.cells #[.slice none 0 0, .slice none 0 0] 75)=V):=⟨_,Lib.hid rfl⟩
 have hV:Below W.heap.size W V:=by rw[←HV.out];exact bel
 have HN:Hid (V.heap[W.heap.size]? =some (.cells #[.slice (some ⟨b,off,none⟩) 5 c] 23 (0,0))):=by rw[←HV.out];exact Lib.hid ((aB (by simp)).trans (ai rfl))
 have HR:Hid (V.heap[W.heap.size+1]? =some (.cells #[.slice none 0 0, .slice none 0 0] 75 (0,0))):=by rw[←HV.out];exact Lib.hid (ai (by simp))
 have c0:=ab hV c0
 have c1:=ab hV c1
 have c2:=ab hV c2
 have c3:=ab hV c3
 have c4:=ab hV c4
 have cn:V.cell? ⟨W.heap.size,0,none⟩=some (.slice (some ⟨b,off,none⟩) 5 c):=(ag HN.out 0).trans rfl
 have zs:W.heap.size+2≤V.heap.size:=by rw[←HV.out];simp
 have zb:=Nat.lt_of_lt_of_le zb hV.size
 have zn:=ah HN.out
 clear hat hn hl hb hk hg ha5 b0 b1 b2 b3 b4 hL lx ly
 go_enter Tryz.func86,Tryz.ntmps86
 go_wp2
 rw[HV.out]
 apply aj [] [0,1,2,3,4,5,6,7,8,9,10,11,12,13,14] 15 [16] [sv _,sv _,sv _,sv _,sv _,sv _,sPO (W.heap.size+2) px,sv _,sv _,sv _,sv _,sv _,sv _,sPO (W.heap.size+2) py,⟨da V.heap.size 104 #[.slice none 0 0],by first|exact bT _ _|exact dF _ _|exact bU _ _|exact db _ _|exact dS _ _|exact ar _ _ _⟩] (by kernel_rfl) (by kernel_rfl)
 iterate 6 ((try go_frame);refine wkQ ?_)
 try go_frame
 refine wkU (fun u hR K hK=> ?_) (fun o6=> ?_)
 ·clear hR
  go_simp
  refine((e3 _).out).mono ?_
  rintro e w9 ⟨v9,rfl,hb9,hp9⟩
  exact hK _ _ hb9 (AY hp9 (by have:=u.size;omega))
 iterate 6 ((try go_frame);refine wkQ ?_)
 try go_frame
 refine wkU (fun u hR K hK=> ?_) (fun o13=> ?_)
 ·clear hR
  go_simp
  refine((e4 _).out).mono ?_
  rintro e w9 ⟨v9,rfl,hb9,hp9⟩
  exact hK _ _ hb9 (AY hp9 (by have:=u.size;omega))
 try go_frame
 refine wkU (fun u hR K hK=> ?_) (fun o14=> ?_)
 ·clear hR
  have zw:=u.size
  go_simp
  exact hK _ _ bel ⟨_,rfl,zw,ai rfl⟩
 try go_frame
 refine aI (fun u hR=> ?_)
 have HPX:Hid (PO (W.heap.size+2) px o6 u.val):=Lib.hid (hR 6 (by simp))
 have HPY:Hid (PO (W.heap.size+2) py o13 u.val):=Lib.hid (hR 13 (by simp))
 obtain⟨xa,xc,rfl⟩:=HPX.out.shape
 obtain⟨ya,yc,rfl⟩:=HPY.out.shape
 obtain⟨g4,rfl,hg4,hh4⟩:da V.heap.size 104 #[.slice none 0 0] o14 u.val:=hR 14 (by simp)
 have HX:=Lib.hid (br hh4 0 (.slice xa px.length xc))
 have hbX:Below V.heap.size V (u.val.setCell ⟨g4,0,none⟩ (.slice xa px.length xc)):=u.below.setCell (by dsimp only;omega) _
 have HPX9:Hid (PO (W.heap.size+2) px (.slice xa px.length xc) (u.val.setCell ⟨g4,0,none⟩ (.slice xa px.length xc))):=Lib.hid (aF HPX.out _ _ (fun e=>aG HPX.out hh4 (by decide) e.symm))
 have HPY9:Hid (PO (W.heap.size+2) py (.slice ya py.length yc) (u.val.setCell ⟨g4,0,none⟩ (.slice xa px.length xc))):=Lib.hid (aF HPY.out _ _ (fun e=>aG HPY.out hh4 (by decide) e.symm))
 obtain⟨d0,d1⟩:u.val.cell? ⟨g4,0,none⟩=some (.slice none 0 0)∧u.val.frozen? ⟨g4,0,none⟩=false:=⟨(ag hh4 0).trans rfl,aC hh4 0⟩
 have d2:=ah hh4
 clear hR hh4 HPX HPY
 simp only[oas]
 go_wp2
 refine NoPanic.normal ?_
 clear d0 d1 d2
 generalize u.val.setCell ⟨g4,0,none⟩ (.slice xa px.length xc)=X at*
 clear u
 have c0:=ab hbX c0
 have c1:=ab hbX c1
 have c2:=ab hbX c2
 have c3:=ab hbX c3
 have c4:=ab hbX c4
 have cn:=ab hbX cn
 have HR:=Lib.hid ((hbX.block _ (ah HR.out)).trans HR.out)
 have zb:=Nat.lt_of_lt_of_le zb hbX.size
 have zn:=Nat.lt_of_lt_of_le zn hbX.size
 have cx:X.cell? ⟨g4,0,none⟩=some (.slice xa px.length xc):=(ag HX.out 0).trans rfl
 have zg:=ah HX.out
 have zs:=Nat.le_trans zs hbX.size
 have hV:=ae hV hbX
 clear hbX HX e3 e4
 go_wp2
 apply aj [] [0,1,2,3,4,5,6,7,8,9,10,11,12,13,14] 15 [] [sv _,sv _,sv _,sFO (W.heap.size+2) K1,sv _,sv _,sv _,sFO (W.heap.size+2) K2,sv _,sv _,sFO (W.heap.size+2) [py],sPO (W.heap.size+2) a5,sFO (W.heap.size+2) [a5],sKO (W.heap.size+2) [K1,K2,[a5]],⟨KGO (W.heap.size+2) [K1,K2,[a5]],by first|exact bT _ _|exact dF _ _|exact bU _ _|exact db _ _|exact dS _ _|exact ar _ _ _⟩] (by kernel_rfl) (by kernel_rfl)
 iterate 2 ((try go_frame);refine wkQ ?_)
 try go_frame
 refine wkV ?_
 apply ex3
 ·intro u K hK
  go_simp
  refine((e1 _).out).mono ?_
  rintro e w9 ⟨rfl,hb9⟩
  exact hK _ hb9
 rfl
 try go_frame
 refine wkU (fun u hR K hK=> ?_) (fun o3=> ?_)
 ·clear hR
  go_simp
  refine((hL1 _ _ _ _ _ u.val (ab u.below cn) (ab u.below cx) ((HPX9.out.below u.below).mono (Nat.zero_le _)) (ab u.below c1) (ab u.below c2) (ab u.below c3) (ab u.below c4)).out).mono ?_
  rintro e w9 ⟨v9,rfl,hb9,hp9⟩
  exact hK _ _ hb9 ⟨hp9.1,hp9.2.mono (by have:=u.size;omega)⟩
 iterate 2 ((try go_frame);refine wkQ ?_)
 try go_frame
 refine wkV ?_
 apply ex3
 ·intro u K hK
  go_simp
  refine((e2 _).out).mono ?_
  rintro e w9 ⟨rfl,hb9⟩
  exact hK _ hb9
 rfl
 try go_frame
 refine wkU (fun u hR K hK=> ?_) (fun o7=> ?_)
 ·clear hR
  go_simp
  refine((hL2 _ _ _ _ _ u.val (ab u.below cn) (ab u.below cx) ((HPX9.out.below u.below).mono (Nat.zero_le _)) (ab u.below c1) (ab u.below c2) (ab u.below c3) (ab u.below c4)).out).mono ?_
  rintro e w9 ⟨v9,rfl,hb9,hp9⟩
  exact hK _ _ hb9 ⟨hp9.1,hp9.2.mono (by have:=u.size;omega)⟩
 iterate 2 ((try go_frame);refine wkQ ?_)
 try go_frame
 refine wkU (fun u hR K hK=> ?_) (fun o10=> ?_)
 ·clear hR
  have zw:=u.size
  have H1:=Lib.hid (bT _ _ _ _ _ u.below HPY9.out)
  go_simp
  exact hK _ _ bel (bi [_] [_] (by omega) ⟨H1.out,trivial⟩ bel)
 try go_frame
 refine wkU (fun u hR K hK=> ?_) (fun o11=> ?_)
 ·have h10:(FO (W.heap.size+2) [py]) o10 u.val:=hr hR 10
  clear hR
  go_simp
  refine((e5 _ _ _ ((HPX9.out.below u.below).planes.mono (Nat.zero_le _)) (h10.2.cells.mono (Nat.zero_le _))).out).mono ?_
  rintro e w9 ⟨v9,rfl,hb9,hp9⟩
  exact hK _ _ hb9 (AY hp9 (by have:=u.size;omega))
 try go_frame
 refine wkU (fun u hR K hK=> ?_) (fun o12=> ?_)
 ·have h11:(PO (W.heap.size+2) a5) o11 u.val:=hr hR 11
  clear hR
  have zw:=u.size
  obtain⟨ya,yc,rfl⟩:=(h11).shape
  have H1:=Lib.hid h11
  clear h11
  go_simp
  exact hK _ _ bel (bi [_] [_] (by omega) ⟨H1.out,trivial⟩ bel)
 try go_frame
 refine wkU (fun u hR K hK=> ?_) (fun o13=> ?_)
 ·have h3:(FO (W.heap.size+2) K1) o3 u.val:=hr hR 3
  have h7:(FO (W.heap.size+2) K2) o7 u.val:=hr hR 7
  have h12:(FO (W.heap.size+2) [a5]) o12 u.val:=hr hR 12
  clear hR
  have zw:=u.size
  obtain⟨ya,yc,rfl⟩:=h3.2.shape
  obtain⟨ua,uc,rfl⟩:=h7.2.shape
  obtain⟨va,vc,rfl⟩:=h12.2.shape
  have H1:=Lib.hid h3.2
  have H2:=Lib.hid h7.2
  have H3:=Lib.hid h12.2
  clear h3 h7 h12
  go_simp
  exact hK _ _ bel (kD [_,_,_] [_,_,_] (by omega) ⟨H1.out,H2.out,H3.out,trivial⟩ bel)
 try go_frame
 refine wkU (fun u hR K hK=> ?_) (fun o14=> ?_)
 ·have h13:(KO (W.heap.size+2) [K1,K2,[a5]]) o13 u.val:=hr hR 13
  clear hR
  obtain⟨ya,yc,rfl⟩:=(h13).shape
  have H1:=Lib.hid h13
  clear h13
  go_simp
  exact hK _ _ brf ⟨_,rfl,H1.out⟩
 try go_frame
 refine aI (fun u hR=> ?_)
 obtain⟨ku,rfl,hku⟩:KGO (W.heap.size+2) [K1,K2,[a5]] o14 u.val:=hR 14 (by simp)
 obtain⟨ka,kc,rfl⟩:=hku.shape (n:=3)
 have HKU:=Lib.hid hku
 have HR:=Lib.hid ((u.below.block _ (ah HR.out)).trans HR.out)
 have hV:=ae hV u.below
 clear hR hku c0 c1 c2 c3 c4 cn cx e1 e2 hL1 hL2 e5
 generalize u.val=w9 at*
 clear u
 obtain⟨r0,r1,rf,rz⟩:=dC HR.out
 have rf0:=rf 0
 have rf1:=rf 1
 clear rf
 simp only[oas]
 go_wp2
 refine NoPanic.normal ?_
 go_wp2
 refine bodyPost_ret (v:= .agg #[.slice ka 3 kc, .slice none 0 0]) (by simp[results,Tryz.results86,go_sem,r0,r1]) rfl ⟨_,_,rfl, ?_, ?_,Bc⟩
 ·exact(hV.setCell (by simp) _).setCell (by simp) _
 ·exact((HKU.out.put HR.out _ _).mono (by omega)).parts
end
end Go.Proofs.YtokhkhnofkcalaaGreatDoor
