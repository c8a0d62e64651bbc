/- texts: MS MU. -/
import Derived.Test.YtnpmkepfpekhfaaGreatDoorSIS35
namespace Go.Proofs.YtnpmkepfpekhfaaGreatDoor
set_option maxHeartbeats 8000000
set_option linter.all false
section
open Go.RowKit Go.Shelf Go.Lib
set_option maxRecDepth 100000
attribute [local go_sem] Ext.cell Ext.frozen
theorem Fv {W:World} {T:TypeId} (xs:List Int) {g:Nat} (hg:g=W.heap.size):Ints (W.alloc (.cells (xs.map (Value.int .i64)).toArray T)) (.slice (some ⟨g,0,none⟩) xs.length xs.length) xs:=
 ⟨_,_,_,rfl,rfl,qaA _,fun _=>⟨g,0,rfl,fun i hi=>by
  refine(aq hg _).trans ?_
  simp[hi]⟩⟩
theorem Km {w:World} {g:Nat} {v:Value} {ps:List Q4} (h0:w.cell? ⟨g,0,none⟩=some v) (h:Q4s w v ps):SolV w (.slice (some ⟨g,0,none⟩) 1 1) [ps]:=
 ⟨_,_,_,rfl,rfl,qaA _,fun _=>⟨g,0,rfl,fun i hi=>by
  have:i=0:=by simpa using hi
  subst this
  exact⟨v,h0,h⟩⟩⟩
theorem Fw {w:World} {v:Value} {xs:List Q4} {g:Nat} {a:Value} {T:TypeId} (h:Q4s w v xs) (hg:w.heap[g]? =some (.cells #[a] T (0,0))) (ha:∀i,a≠ .int .i64 i) (o:Nat) (u:Value):Q4s (w.setCell ⟨g,o,none⟩ u) v xs:=by
 obtain⟨ad,n,c,e,hn,hc,hx⟩:=h
 refine⟨ad,n,c,e,hn,hc,fun h0=> ?_⟩
 obtain⟨k,off,e2,hi⟩:=hx h0
 have hbg:k≠g:=by
  rintro rfl
  have h1:=(hi 0 (by omega)).1
  rw[ag hg]at h1
  match off,h1 with
  |0,h1=>simp at h1;exact ha _ h1
  |n+1,h1=>simp at h1
 refine⟨k,off,e2,fun i hil=> ?_⟩
 obtain⟨c0,c1,c2,c3⟩:=hi i hil
 exact⟨(eW hbg).trans c0,(eW hbg).trans c1,(eW hbg).trans c2,(eW hbg).trans c3⟩
theorem IB {w:World} {v:Value} {css:List (List Q4)} {g:Nat} {T:TypeId} (h:SolV w v css) (hg:w.heap[g]? =some (.cells #[.slice none 0 0] T (0,0))) (hn:∀x∈css,0<x.length) (o:Nat) (u:Value):SolV (w.setCell ⟨g,o,none⟩ u) v css:=by
 obtain⟨ad,n,c,e,hl,hc,hx⟩:=h
 refine⟨ad,n,c,e,hl,hc,fun h0=> ?_⟩
 obtain⟨k,off,e2,hi⟩:=hx h0
 refine⟨k,off,e2,fun i hil=> ?_⟩
 obtain⟨x,hx,hq⟩:=hi i hil
 have hbg:k≠g:=by
  rintro rfl
  rw[ag hg]at hx
  match off+i,hx with
  |0,hx=>
   simp at hx
   subst hx
   obtain⟨ad',n',c',e',hn',_⟩:=hq
   cases e'
   have:=hn _ (qaB hil)
   omega
  |n+1,hx=>simp at hx
 exact⟨x,(eW hbg).trans hx,Fw hq hg (fun _ h=>by cases h) _ _⟩
theorem IC (x1 y1 z1 x2 y2 z2:Int) (W:World) (h1: -300000≤x1∧x1≤300000) (h2: -300000≤y1∧y1≤300000) (h3: -300000≤z1∧z1≤300000) (h4: -300000≤x2∧x2≤300000) (h5: -300000≤y2∧y2≤300000) (h6: -300000≤z2∧z2≤300000) (hx:x1<x2) (hy:y1<y2) (hz:z1<z2):
  Calls Tryz.prog 127 #[.agg #[.int .i64 x1, .int .i64 y1, .int .i64 z1, .int .i64 x2, .int .i64 y2, .int .i64 z2]] W (fun e w'=>∃sv,e= .returned (.tuple #[.agg #[sv], .int .i64 0])∧Below W.heap.size W w'∧SolV w' sv [CV x1 y1 z1 x2 y2 z2]):=by
 have HO:=fun W'=>YJ (Gq x1 y1 z1 x2 y2 z2 W' h1 h2 h3 h4 h5 h6)
 have HR:=fun W' v (h:Ints W' v [x1,y1,z1,x2,y2,z2])=>YJ (Lo [x1,y1,z1,x2,y2,z2] v W' (by simp;omega) (by simp) h)
 have HI:Hid (Ints (((W.alloc (.cells #[.int .i64 x1, .int .i64 y1, .int .i64 z1, .int .i64 x2, .int .i64 y2, .int .i64 z2] 148)).alloc (.cells #[.slice none 0 0] 81)).alloc (.cells #[.int .i64 x1, .int .i64 y1, .int .i64 z1, .int .i64 x2, .int .i64 y2, .int .i64 z2] 3)) (.slice (some ⟨W.heap.size+1+1,0,none⟩) 6 6) [x1,y1,z1,x2,y2,z2]):=YJ (Fv (T:=3) [x1,y1,z1,x2,y2,z2] (by simp))
 obtain⟨V,HV⟩:∃V,Hid (((W.alloc (.cells #[.int .i64 x1, .int .i64 y1, .int .i64 z1, .int .i64 x2, .int .i64 y2, .int .i64 z2] 148)).alloc (.cells #[.slice none 0 0] 81)).alloc (.cells #[.int .i64 x1, .int .i64 y1, .int .i64 z1, .int .i64 x2, .int .i64 y2, .int .i64 z2] 3)=V):=⟨_,YJ rfl⟩
 have hV:Below W.heap.size W V:=by rw[←HV.out];exact bel
 have HC:Hid (V.heap[W.heap.size]? =some (.cells #[.int .i64 x1, .int .i64 y1, .int .i64 z1, .int .i64 x2, .int .i64 y2, .int .i64 z2] 148 (0,0))):=YJ (by rw[←HV.out];exact(aB (by simp;omega)).trans ((aB (by simp)).trans (ai rfl)))
 have HD:Hid (V.heap[W.heap.size+1]? =some (.cells #[.slice none 0 0] 81 (0,0))):=YJ (by rw[←HV.out];exact(aB (by simp)).trans (ai (by simp)))
 rw[HV.out]at HI
 have q1:decide (x2≤x1)=false:=decide_eq_false (by omega)
 have q2:decide (y2≤y1)=false:=decide_eq_false (by omega)
 have q3:decide (z2≤z1)=false:=decide_eq_false (by omega)
 have q1':¬x2≤x1:=by omega
 have q2':¬y2≤y1:=by omega
 have q3':¬z2≤z1:=by omega
 generalize CV x1 y1 z1 x2 y2 z2=B at*
 clear h1 h2 h3 h4 h5 h6 hx hy hz
 go_enter Tryz.func127,Tryz.ntmps127
 go_wp2_with fail
 rw[HV.out]
 refine((HR _ _ HI.out).out).mono ?_
 rintro e w1 ⟨rfl,hb1⟩
 have hC:=(hb1.block _ (ah HC.out)).trans HC.out
 have hD:=(hb1.block _ (ah HD.out)).trans HD.out
 have hb1':=fB hV hb1
 clear HR HI HV HC HD hb1 hV
 have c0:=(ag hC 0).trans rfl
 have c1:=(ag hC 1).trans rfl
 have c2:=(ag hC 2).trans rfl
 have c3:=(ag hC 3).trans rfl
 have c4:=(ag hC 4).trans rfl
 have c5:=(ag hC 5).trans rfl
 have cz:=ah hC
 go_wp2_with fail
 refine((HO _).out).mono ?_
 rintro e w2 ⟨pv,rfl,hb2,hq⟩
 have HQ:=YJ hq
 obtain⟨pa,pn,pc,rfl, -⟩:=hq
 have hW2:=fB hb1' (fB bel hb2)
 have hD2:=(hb2.block _ (ah hD)).trans hD
 clear c0 c1 c2 c3 c4 c5 cz hC hD HO
 have d0:=(ag hD2 0).trans rfl
 have df:=aC hD2
 have dz:=ah hD2
 have hS:=Tu hD2 0 (.slice (some ⟨w2.heap.size,0,none⟩) 1 1)
 obtain⟨Y,HY⟩:∃Y,Hid ((w2.setCell ⟨W.heap.size+1,0,none⟩ (.slice (some ⟨w2.heap.size,0,none⟩) 1 1)).alloc (.cells #[.slice pa pn pc] 167)=Y):=⟨_,YJ rfl⟩
 have hbY:Below W.heap.size W Y:=by rw[←HY.out];exact(hW2.setCell (p:=⟨W.heap.size+1,0,none⟩) (by show _≤W.heap.size+1;omega) _).alloc (by have:=hW2.size;simp;omega) _
 have hN:Y.cell? ⟨w2.heap.size,0,none⟩=some (.slice pa pn pc):=by rw[←HY.out];exact(aq (by simp) 0).trans rfl
 have hQY:Q4s Y (.slice pa pn pc) B:=by rw[←HY.out];exact(Fw HQ.out hD2 (fun _ h=>by cases h) _ _).below bel
 have hr:Y.cell? ⟨W.heap.size+1,0,none⟩=some (.slice (some ⟨w2.heap.size,0,none⟩) 1 1):=by rw[←HY.out];exact(ag ((aB (by simp;omega)).trans hS) 0).trans rfl
 go_wp2
 rw[HY.out]
 refine bodyPost_ret (v:= .tuple #[.agg #[.slice (some ⟨w2.heap.size,0,none⟩) 1 1], .int .i64 0]) (by simp[results,Tryz.results127,go_sem,hr]) rfl ⟨_,rfl,hbY,Km hN hQY⟩
theorem Ly (x1 y1 z1 x2 y2 z2:Int):∀x∈[CV x1 y1 z1 x2 y2 z2],0<x.length:=by
 intro x hx
 rw[List.mem_singleton]at hx
 subst hx
 show 0<6
 omega
theorem Fx (x1 y1 z1 x2 y2 z2:Int) (W:World) (h1: -300000≤x1∧x1≤300000) (h2: -300000≤y1∧y1≤300000) (h3: -300000≤z1∧z1≤300000) (h4: -300000≤x2∧x2≤300000) (h5: -300000≤y2∧y2≤300000) (h6: -300000≤z2∧z2≤300000) (hx:x1<x2) (hy:y1<y2) (hz:z1<z2):
  Calls Tryz.prog 86 #[.agg #[.int .i64 x1, .int .i64 y1, .int .i64 z1, .int .i64 x2, .int .i64 y2, .int .i64 z2]] W (fun e w'=>∃sv,e= .returned (.agg #[sv])∧Below W.heap.size W w'∧SolV w' sv [CV x1 y1 z1 x2 y2 z2]):=by
 have HO:=fun W'=>YJ (IC x1 y1 z1 x2 y2 z2 W' h1 h2 h3 h4 h5 h6 hx hy hz)
 have hl:=Ly x1 y1 z1 x2 y2 z2
 generalize [CV x1 y1 z1 x2 y2 z2]=B at*
 clear h1 h2 h3 h4 h5 h6 hx hy hz
 obtain⟨V,HV⟩:∃V,Hid ((W.alloc (.cells #[.int .i64 x1, .int .i64 y1, .int .i64 z1, .int .i64 x2, .int .i64 y2, .int .i64 z2] 148)).alloc (.cells #[.slice none 0 0] 81)=V):=⟨_,YJ rfl⟩
 have hV:Below W.heap.size W V:=by rw[←HV.out];exact bel
 have HD:Hid (V.heap[W.heap.size+1]? =some (.cells #[.slice none 0 0] 81 (0,0))):=YJ (by rw[←HV.out];exact ai (by simp))
 go_enter Tryz.func86,Tryz.ntmps86
 go_wp2_with fail
 rw[HV.out]
 refine((HO _).out).mono ?_
 rintro e w1 ⟨sv,rfl,hb1,hs⟩
 have hD:=(hb1.block _ (ah HD.out)).trans HD.out
 have hb1':=fB hV hb1
 clear HO HV hV
 have d0:=(ag hD 0).trans rfl
 have df:=aC hD
 have dz:=ah hD
 obtain⟨sa,sn,sc,rfl,hx⟩:=id hs
 clear hx
 have HS:=YJ hs
 obtain⟨Y,HY⟩:∃Y,Hid ((w1.setCell ⟨W.heap.size+1,0,none⟩ (.slice sa sn sc)).alloc (.cells #[.slice sa sn sc] 81)=Y):=⟨_,YJ rfl⟩
 have hbY:Below W.heap.size W Y:=by rw[←HY.out];exact(hb1'.setCell (p:=⟨W.heap.size+1,0,none⟩) (by show _≤W.heap.size+1;omega) _).alloc (by have:=hb1'.size;simp;omega) _
 have hSY:SolV Y (.slice sa sn sc) B:=by rw[←HY.out];exact(IB HS.out hD hl 0 _).below bel
 have hr:Y.cell? ⟨W.heap.size+1,0,none⟩=some (.slice sa sn sc):=by rw[←HY.out];exact(ag ((aB (by simp;omega)).trans (Tu hD 0 _)) 0).trans rfl
 clear hs hD hl
 go_wp2
 rw[HY.out]
 refine bodyPost_ret (v:= .agg #[.slice sa sn sc]) (by simp[results,Tryz.results86,go_sem,hr]) rfl ⟨_,rfl,hbY,hSY⟩
def MJ (W:World) (e:Ending) (w':World):Prop:=∃g sa sb,e= .returned (.slice (some ⟨g,0,none⟩) 2 2)∧Below W.heap.size W w'∧w'.cell? ⟨g,0,none⟩=some sa∧w'.cell? ⟨g,1,none⟩=some sb∧SolV w' sa exA∧SolV w' sb exB
theorem Kn (W:World):Calls Tryz.prog 42 #[] W (MJ W):=by
 have H1:=fun W'=>YJ (Fx 0 0 0 2 2 2 W' (by decide) (by decide) (by decide) (by decide) (by decide) (by decide) (by decide) (by decide) (by decide))
 have H2:=fun W'=>YJ (Fx 2 0 0 4 2 2 W' (by decide) (by decide) (by decide) (by decide) (by decide) (by decide) (by decide) (by decide) (by decide))
 have e1: [CV 0 0 0 2 2 2]=exA:=rfl
 have e2: [CV 2 0 0 4 2 2]=exB:=rfl
 rw[e1]at H1
 rw[e2]at H2
 clear e1 e2
 go_enter Tryz.func42,Tryz.ntmps42
 go_wp2_with fail
 refine((H1 _).out).mono ?_
 rintro e w1 ⟨sa,rfl,hb1,hA⟩
 have HA:=YJ hA
 clear hA
 go_wp2_with fail
 refine((H2 _).out).mono ?_
 rintro e w2 ⟨sb,rfl,hb2,hB⟩
 have HB:=YJ hB
 clear hB H1 H2
 go_wp2
 go_ret
 exact⟨_,sa,sb,rfl,fB (fB hb1 hb2) bel,(aq rfl 0).trans rfl,(aq rfl 1).trans rfl,SolV.below HA.out (fB hb2 bel),SolV.below HB.out bel⟩
end
section
open Go.RowKit Go.Shelf Go.Lib
set_option maxRecDepth 100000
attribute [local go_sem] Ext.cell Ext.frozen
def Ex:Value→World→Prop:=fun v w=>∃g sa sb,v= .slice (some ⟨g,0,none⟩) 2 2∧w.cell? ⟨g,0,none⟩=some sa∧w.cell? ⟨g,1,none⟩=some sb∧SolV w sa exA∧SolV w sb exB
theorem eK:dR Ex:=fun _ _ _ hb ⟨g,sa,sb,e,k0,k1,k2,k3⟩=>⟨g,sa,sb,e,ab hb k0,ab hb k1,SolV.below k2 hb,SolV.below k3 hb⟩
def Ey (css:List (List Q4)):Value→World→Prop:=fun v w=>∃g i sv,v= .pointer (some ⟨g,i,none⟩)∧w.cell? ⟨g,i,none⟩=some sv∧SolV w sv css
theorem NV (css:List (List Q4)):dR (Ey css):=fun _ _ _ hb ⟨g,i,sv,e,k0,k1⟩=>⟨g,i,sv,e,ab hb k0,SolV.below k1 hb⟩
def Ez (css:List (List Q4)):Value→World→Prop:=fun v w=>∃sv,v= .agg #[sv]∧SolV w sv css
theorem gu (css:List (List Q4)):dR (Ez css):=fun _ _ _ hb ⟨sv,e,k⟩=>⟨sv,e,SolV.below k hb⟩
section
variable {P:Program} {ops:Array Oper} {md:Region.Mode} {Q:Exit→Act→World→Prop} {R:Nat→Value→World→Prop} {w0:World} {F:(Nat→Value)→Act→Prop} {zi:List Nat} {i:Nat} {l:List Nat} {vals:Nat→Value} {a:Act} {o:Oper} {d:Nat}
theorem MM (ho:ops[i]? =some o) (hd:o.dst=some d) (hlt:d<a.tmps.size) (hg:o.guard=none) (hz:zi.contains i=false)
  (h:∃c,(∀u:Ext w0,(∀j,Region.waitsFor md ops i j=true→R j (vals j) u.val)→∀K:Act→World→Prop,(∀w'',Below u.val.heap.size u.val w''→K (a.put (some d) c) w'')→o.wp P a u.val K (NoPanic Q))∧R i=IsV c∧wpK P md ops R w0 Q zi F l (upd vals i c) (a.put (some d) c)):wpK P md ops R w0 Q zi F (i::l) vals a:=by
 obtain⟨c,h1,h2,h3⟩:=h
 have e:aM ops i=some d:=by simp[aM,ho,hd]
 refine⟨fun w' hb hR=> ?_, .inl ⟨c,fun v w hv=>by rw[h2]at hv;exact hv,by rw[e];exact h3⟩⟩
 rw[if_neg (by rw[hz];simp)]
 refine⟨o,d,ho,hd,hlt, ?_⟩
 rw[if_pos (by unfold Region.wanted;rw[hg])]
 exact h1 ⟨w',hb⟩ hR _ fun w'' hb'=>⟨c,by rw[hd],hb',by rw[h2];rfl⟩
end
theorem Mw:∀s∈exL,∀c∈s,c.length≤1000000:=by decide
theorem MN (W:World) (sv tv:Value) (h1:SolV W sv exA) (h2:SolV W tv exB):Calls Tryz.prog 41 #[.agg #[sv], .agg #[tv], .agg #[.int .i64 1, .int .i64 1, .int .i64 0]] W (Ret W (.tuple #[.bool true, .int .i64 0])):=by
 have h:=CO exA exB sv tv 1 1 0 W (by decide) (by decide) h1 h2
 rw[Lt,Mk]at h
 exact h
theorem MO (W:World) (sv tv:Value) (h1:SolV W sv exA) (h2:SolV W tv exB):Calls Tryz.prog 41 #[.agg #[sv], .agg #[tv], .agg #[.int .i64 0, .int .i64 1, .int .i64 0]] W (Ret W (.tuple #[.bool false, .int .i64 0])):=by
 have h:=CO exA exB sv tv 0 1 0 W (by decide) (by decide) h1 h2
 rw[Lu,Ml]at h
 exact h
theorem DU {w:World} {B n:Nat} {v:Value} {l:List Nat} (h:w.ownsRow B 3 1 v n (l.map iV)) (hn:n=l.length):Ints w v (l.map fun n:Nat=>(n:Int)):=by
 subst hn
 refine jy (base:=B) (T:=3) ?_
 rw[qdo,List.map_map]
 exact h
def MZ (W:World) (e:Ending) (w':World):Prop:=∃gv ov,e= .returned (.tuple #[.agg #[gv,ov, .int .i64 (-1), .int .i64 (-1), .int .i64 (-1)], .bool true, .int .i64 0])∧Below W.heap.size W w'∧Ints w' gv [0,1]∧Ints w' ov [0]
theorem Na (W:World) (lv nv:Value) (h:SolsV W lv exL) (hn:Ints W nv [0,1]) (hT:TabAt 1 Lib.deBruijn64tab W):Calls Tryz.prog 43 #[lv,nv] W (MZ W):=by
 refine(Iy exL [0,1] lv nv W Mw (by decide) h hn hT (fun h=>KE h)).mono ?_
 rintro e w' ⟨hb,⟨h1, -⟩|⟨h1,h2, -⟩|⟨h1,v,o,cs,hv,h2,he,hs⟩⟩
 ·exact absurd Mn h1
 ·rw[Fu]at h2;cases h2
 ·rw[Fu]at h2
  injection h2 with h2
  injection h2 with h3 h4
  subst h3 h4
  obtain⟨gv,ov,rfl,o1,o2⟩:=hs
  rw[Lv,Mo]at o1
  rw[Mp]at o2
  exact⟨gv,ov,he,hb,DU o1 rfl,DU o2 rfl⟩
theorem Nb (W:World) (v:Value) (h:Kj W v [([0,1],[0],(-1, -1, -1))]) (htab:Lib.TabIs Tryz.prog W "internal/strconv.uint64pow10" .u64 Lib.pow10Tab):
  Calls Tryz.prog 44 #[v] W (Ret W (.tuple #[.string ⟨#[48,44,49,32,48,32,45,49,32,45,49,32,45,49,10]⟩, .int .i64 0])):=by
 have h:=IA _ v W (by decide) h htab
 rw[Lw,Lx]at h
 exact h
theorem KF {w:World} {g:Nat} {sa sb:Value} (k0:w.cell? ⟨g,0,none⟩=some sa) (k1:w.cell? ⟨g,1,none⟩=some sb) (k2:SolV w sa exA) (k3:SolV w sb exB):SolsV w (.slice (some ⟨g,0,none⟩) 2 2) exL:=
 ⟨_,_,_,rfl,rfl,qaA _,fun _=>⟨g,0,rfl,fun i hi=>by
  match i,hi with
  |0,_=>exact⟨sa,k0,k2⟩
  |1,_=>exact⟨sb,k1,k3⟩⟩⟩
theorem IM {w:World} {g:Nat} {gv ov:Value} {T:TypeId} (h:w.heap[g]? =some (.cells #[gv,ov, .int .i64 (-1), .int .i64 (-1), .int .i64 (-1)] T (0,0))) (h1:Ints w gv [0,1]) (h2:Ints w ov [0]):Kj w (.slice (some ⟨g,0,none⟩) 1 1) [([0,1],[0],(-1, -1, -1))]:=
 ⟨_,_,_,rfl,rfl,qaA _,fun _=>⟨g,0,rfl,fun i hi=>by
  have:i=0:=by simpa using hi
  subst this
  exact⟨gv,ov,(ag h 0).trans rfl,(ag h 1).trans rfl,(ag h 2).trans rfl,(ag h 3).trans rfl,(ag h 4).trans rfl,h1,h2⟩⟩⟩
theorem Gv (W:World) (htab:Lib.TabIs Tryz.prog W "internal/strconv.uint64pow10" .u64 Lib.pow10Tab) (hT:TabAt 1 Lib.deBruijn64tab W):Calls Tryz.prog 10 #[] W (Ret W (.bool true)):=by
 have HPr:=fun W'=>YJ (Kn W')
 have HB1:=fun W' sv tv h1 h2=>YJ (MN W' sv tv h1 h2)
 have HB2:=fun W' sv tv h1 h2=>YJ (MO W' sv tv h1 h2)
 have HF:=fun W' (hb:Below W.heap.size W W') lv nv h hn=>YJ (Na W' lv nv h hn (ma hT hb))
 have HPt:=fun W' (hb:Below W.heap.size W W') v h=>YJ (Nb W' v h (kl htab hb))
 clear htab hT
 go_enter Tryz.func10,Tryz.ntmps10
 go_wp2
 apply aj [11] [0,1,2,3,4,5,6,7,8,9,10,11] 12 [] [⟨Ex,by first|exact eK|exact NV _|exact gu _⟩,⟨Ey exA,by first|exact eK|exact NV _|exact gu _⟩,⟨Ez exA,by first|exact eK|exact NV _|exact gu _⟩,⟨Ex,by first|exact eK|exact NV _|exact gu _⟩,⟨Ey exB,by first|exact eK|exact NV _|exact gu _⟩,⟨Ez exB,by first|exact eK|exact NV _|exact gu _⟩,sv _,sv _,sv _,sv _,sv _,sv _] (by kernel_rfl) (by kernel_rfl)
 try go_frame
 refine wkU (fun u hR K hK=> ?_) (fun o0=> ?_)
 ·clear hR
  go_simp
  refine((HPr _).out).mono ?_
  rintro e w9 ⟨g,sa,sb,rfl,hb9,k0,k1,k2,k3⟩
  exact hK _ _ hb9 ⟨g,sa,sb,rfl,k0,k1,k2,k3⟩
 try go_frame
 refine wkU (fun u hR K hK=> ?_) (fun o1=> ?_)
 ·have h0:Ex o0 u.val:=hr hR 0
  clear hR
  obtain⟨g,sa,sb,rfl,k0,k1,k2,k3⟩:=h0
  go_simp
  exact hK _ _ (brf) ⟨g,0,sa,rfl,k0,k2⟩
 try go_frame
 refine wkU (fun u hR K hK=> ?_) (fun o2=> ?_)
 ·have h1:Ey exA o1 u.val:=hr hR 1
  clear hR
  obtain⟨g,i,sa,rfl,k0,k2⟩:=h1
  have zl:=qaC u.val _ k0
  go_simp
  exact hK _ _ (brf) ⟨sa,rfl,k2⟩
 try go_frame
 refine wkU (fun u hR K hK=> ?_) (fun o3=> ?_)
 ·clear hR
  go_simp
  refine((HPr _).out).mono ?_
  rintro e w9 ⟨g,sa,sb,rfl,hb9,k0,k1,k2,k3⟩
  exact hK _ _ hb9 ⟨g,sa,sb,rfl,k0,k1,k2,k3⟩
 try go_frame
 refine wkU (fun u hR K hK=> ?_) (fun o4=> ?_)
 ·have h3:Ex o3 u.val:=hr hR 3
  clear hR
  obtain⟨g,sa,sb,rfl,k0,k1,k2,k3⟩:=h3
  go_simp
  exact hK _ _ (brf) ⟨g,1,sb,rfl,k1,k3⟩
 try go_frame
 refine wkU (fun u hR K hK=> ?_) (fun o5=> ?_)
 ·have h4:Ey exB o4 u.val:=hr hR 4
  clear hR
  obtain⟨g,i,sa,rfl,k0,k2⟩:=h4
  have zl:=qaC u.val _ k0
  go_simp
  exact hK _ _ (brf) ⟨sa,rfl,k2⟩
 ((try go_frame);refine wkQ ?_)
 try go_frame
 refine MM rfl rfl (by simp) rfl rfl ?_
 apply ex3
 ·intro u hR K hK
  have h2:Ez exA o2 u.val:=hr hR 2
  have h5:Ez exB o5 u.val:=hr hR 5
  clear hR
  obtain⟨sa,rfl,k1⟩:=h2
  obtain⟨sb,rfl,k2⟩:=h5
  go_simp
  refine((HB1 _ _ _ k1 k2).out).mono ?_
  rintro e w9 ⟨rfl,hb9⟩
  exact hK _ hb9
 rfl
 iterate 3 ((try go_frame);refine wkQ ?_)
 try go_frame
 refine wkz rfl rfl rfl rfl ?_
 apply Exists.intro
 apply And.intro
 ·intro w9
  go_simp
  try rfl
 refine⟨rfl, ?_⟩
 try go_frame
 refine aI (fun u hR=> ?_)
 have hb1:=u.below
 clear hR
 generalize u.val=w1 at*
 clear u
 simp only[oas]
 go_wp2
 refine NoPanic.normal ?_
 go_wp2
 clear HB1
 apply aj [11] [0,1,2,3,4,5,6,7,8,9,10,11] 12 [] [⟨Ex,by first|exact eK|exact NV _|exact gu _⟩,⟨Ey exA,by first|exact eK|exact NV _|exact gu _⟩,⟨Ez exA,by first|exact eK|exact NV _|exact gu _⟩,⟨Ex,by first|exact eK|exact NV _|exact gu _⟩,⟨Ey exB,by first|exact eK|exact NV _|exact gu _⟩,⟨Ez exB,by first|exact eK|exact NV _|exact gu _⟩,sv _,sv _,sv _,sv _,sv _,sv _] (by kernel_rfl) (by kernel_rfl)
 try go_frame
 refine wkU (fun u hR K hK=> ?_) (fun o0=> ?_)
 ·clear hR
  go_simp
  refine((HPr _).out).mono ?_
  rintro e w9 ⟨g,sa,sb,rfl,hb9,k0,k1,k2,k3⟩
  exact hK _ _ hb9 ⟨g,sa,sb,rfl,k0,k1,k2,k3⟩
 try go_frame
 refine wkU (fun u hR K hK=> ?_) (fun o1=> ?_)
 ·have h0:Ex o0 u.val:=hr hR 0
  clear hR
  obtain⟨g,sa,sb,rfl,k0,k1,k2,k3⟩:=h0
  go_simp
  exact hK _ _ (brf) ⟨g,0,sa,rfl,k0,k2⟩
 try go_frame
 refine wkU (fun u hR K hK=> ?_) (fun o2=> ?_)
 ·have h1:Ey exA o1 u.val:=hr hR 1
  clear hR
  obtain⟨g,i,sa,rfl,k0,k2⟩:=h1
  have zl:=qaC u.val _ k0
  go_simp
  exact hK _ _ (brf) ⟨sa,rfl,k2⟩
 try go_frame
 refine wkU (fun u hR K hK=> ?_) (fun o3=> ?_)
 ·clear hR
  go_simp
  refine((HPr _).out).mono ?_
  rintro e w9 ⟨g,sa,sb,rfl,hb9,k0,k1,k2,k3⟩
  exact hK _ _ hb9 ⟨g,sa,sb,rfl,k0,k1,k2,k3⟩
 try go_frame
 refine wkU (fun u hR K hK=> ?_) (fun o4=> ?_)
 ·have h3:Ex o3 u.val:=hr hR 3
  clear hR
  obtain⟨g,sa,sb,rfl,k0,k1,k2,k3⟩:=h3
  go_simp
  exact hK _ _ (brf) ⟨g,1,sb,rfl,k1,k3⟩
 try go_frame
 refine wkU (fun u hR K hK=> ?_) (fun o5=> ?_)
 ·have h4:Ey exB o4 u.val:=hr hR 4
  clear hR
  obtain⟨g,i,sa,rfl,k0,k2⟩:=h4
  have zl:=qaC u.val _ k0
  go_simp
  exact hK _ _ (brf) ⟨sa,rfl,k2⟩
 ((try go_frame);refine wkQ ?_)
 try go_frame
 refine MM rfl rfl (by simp) rfl rfl ?_
 apply ex3
 ·intro u hR K hK
  have h2:Ez exA o2 u.val:=hr hR 2
  have h5:Ez exB o5 u.val:=hr hR 5
  clear hR
  obtain⟨sa,rfl,k1⟩:=h2
  obtain⟨sb,rfl,k2⟩:=h5
  go_simp
  refine((HB2 _ _ _ k1 k2).out).mono ?_
  rintro e w9 ⟨rfl,hb9⟩
  exact hK _ hb9
 rfl
 iterate 3 ((try go_frame);refine wkQ ?_)
 try go_frame
 refine wkz rfl rfl rfl rfl ?_
 apply Exists.intro
 apply And.intro
 ·intro w9
  go_simp
  try rfl
 refine⟨rfl, ?_⟩
 try go_frame
 refine aI (fun u hR=> ?_)
 have hb2:=fB hb1 u.below
 clear hR
 generalize u.val=w2 at*
 clear u hb1
 simp only[oas]
 go_wp2
 refine NoPanic.normal ?_
 clear HB2
 go_wp2_with fail
 refine((HPr _).out).mono ?_
 rintro e w3 ⟨g,sa,sb,rfl,hb3,k0,k1,k2,k3⟩
 have hW3:=fB hb2 hb3
 have HSs:=YJ (KF k0 k1 k2 k3)
 clear k0 k1 k2 k3 HPr
 have hbi:Below w3.heap.size w3 (w3.alloc (.cells #[.int .i64 0, .int .i64 1] 3)):=bel
 have HFx:=YJ (HF (w3.alloc (.cells #[.int .i64 0, .int .i64 1] 3)) (fB hW3 hbi) (.slice (some ⟨g,0,none⟩) 2 2) (.slice (some ⟨w3.heap.size,0,none⟩) 2 2) (SolsV.below HSs.out hbi) (Fv (T:=3) [0,1] rfl)).out
 clear HF
 go_wp2_with fail
 refine HFx.out.mono ?_
 rintro e w4 ⟨gv,ov,rfl,hb4,hg,ho⟩
 have HG:=YJ hg
 have HO:=YJ ho
 have hW4:=fB (fB hW3 hbi) hb4
 clear hg ho HSs HFx
 have hbs:Below w4.heap.size w4 ((w4.alloc (.cells #[gv,ov, .int .i64 (-1), .int .i64 (-1), .int .i64 (-1)] 60)).alloc (.cells #[gv,ov, .int .i64 (-1), .int .i64 (-1), .int .i64 (-1)] 60)):=bel
 have HPx:=YJ (HPt _ (fB hW4 hbs) (.slice (some ⟨w4.heap.size+1,0,none⟩) 1 1) (IM (by exact ai (by simp)) (HG.out.below hbs) (HO.out.below hbs))).out
 clear HPt
 obtain⟨ga,gn,gc,rfl, -⟩:=id HG.out
 obtain⟨oa,on,oc,rfl, -⟩:=id HO.out
 go_wp2_with fail
 refine HPx.out.mono ?_
 rintro e w5 ⟨rfl,hb5⟩
 have hW5:=fB (fB hW4 hbs) hb5
 clear HPx HG HO
 go_wp2
 go_ret
 exact⟨ay (by first|rfl|simp),hW5⟩
end
end Go.Proofs.YtnpmkepfpekhfaaGreatDoor
