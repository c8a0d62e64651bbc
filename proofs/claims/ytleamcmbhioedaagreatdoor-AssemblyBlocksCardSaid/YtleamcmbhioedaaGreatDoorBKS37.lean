/- texts: O3 MU SR AC3 AC6. -/
import Derived.Test.YtleamcmbhioedaaGreatDoorBKS36
namespace Go.Proofs.YtleamcmbhioedaaGreatDoor
set_option maxHeartbeats 8000000
set_option linter.unusedSimpArgs false
set_option linter.unusedVariables false
section
open Go.RowKit
theorem FF {ps:List Q4} (h:bK ps=0):Bdd ps∧Ins ps:=by
 unfold bK at h
 split at h
 ·cases h
 split at h
 ·contradiction
 split at h
 ·cases h
 rename_i hb
 split at h
 ·cases h
 rename_i hs
 have hb':bx ps=true:=by simpa using hb
 have hs':fh ps (aS ps)=true:=by simpa using hs
 refine⟨FA ps hb', ?_⟩
 unfold fh at hs'
 rw[Bool.and_eq_true,decide_eq_true_eq,List.all_eq_true]at hs'
 refine Mt ps (dQ ps) hs'.2 (Ku ps) (fun p hp=> ?_)
 have h1:=hs'.1 p hp
 unfold gM at h1
 rw[List.any_eq_true]at h1
 obtain⟨c,hc,h2⟩:=h1
 have h2:=of_decide_eq_true h2
 rw[mt,dp]at h2
 exact⟨c,((lf ps).2 c).2 (pq hc),h2⟩
theorem FG {ps:List Q4} (h:bK ps=0):Rep (bp ps) ps:=KB (FF h).1 (FF h).2
theorem IL {css:List (List Q4)} (h:eY css=0):∀c∈css,bK c=0:=by
 unfold eY at h
 split at h
 ·cases h
 ·exact Dr h
theorem KC {α β:Type} (l:List α) (m:List β) (f:α→β→Bool):(l.any fun a=>m.any fun b=>f a b)=m.any fun b=>l.any fun a=>f a b:=by
 rw[Bool.eq_iff_iff]
 simp only[List.any_eq_true]
 constructor
 ·rintro⟨a,ha,b,hb,h⟩;exact⟨b,hb,a,ha,h⟩
 ·rintro⟨b,hb,a,ha,h⟩;exact⟨a,ha,b,hb,h⟩
theorem Gu {α β:Type} {l:List α} {m:List β} {f g:α→β→Bool} (h:∀a∈l,∀b∈m,f a b=g a b):(l.any fun a=>m.any fun b=>f a b)=l.any fun a=>m.any fun b=>g a b:=by
 rw[Bool.eq_iff_iff]
 simp only[List.any_eq_true]
 constructor
 ·rintro⟨a,ha,b,hb,e⟩;exact⟨a,ha,b,hb,by rw[←h a ha b hb];exact e⟩
 ·rintro⟨a,ha,b,hb,e⟩;exact⟨a,ha,b,hb,by rw[h a ha b hb];exact e⟩
theorem KD {p q:List (List Q4)} (hp:∀c∈p,bK c=0) (hq:∀c∈q,bK c=0) {w:Q3} (hw:w≠(0,0,0)):BT (q.map bp) (p.map bp) (Dy w)=BT (p.map bp) (q.map bp) w:=by
 unfold BT
 simp only[List.any_map,Function.comp_def]
 rw[KC]
 exact Gu fun c hc d hd=>Gt (FG (hp c hc)) (FG (hq d hd)) hw
theorem DT (l:List (List (List Q4))) (i:Nat):(l.map (·.map bp)).getD i []=(l.getD i []).map bp:=by
 simp only[List.getD,List.getElem?_map]
 cases l[i]? <;>rfl
theorem KE {l:List (List (List Q4))} (h:eB l=0):∀v∈ways26,∀i k,Cb (l.map (·.map bp)) (-v.1, -v.2.1, -v.2.2) k i=Cb (l.map (·.map bp)) v i k:=by
 intro v hv i k
 have hm:∀i,∀c∈l.getD i [],bK c=0:=fun i c hc=>by
  by_cases hi:i<l.length
  ·rw[show l.getD i []=l[i] by simp[List.getD,hi]]at hc
   exact IL ((sq h).2 _ (List.getElem_mem hi)) c hc
  ·rw[show l.getD i []=[] by simp[List.getD,hi]]at hc
   cases hc
 unfold Cb
 rw[DT,DT]
 exact KD (hm i) (hm k) (by rintro rfl;have:=(Ef _ hv).2.2.2;simp at this)
end
section
open Go.RowKit Go.Shelf Go.Lib
set_option maxRecDepth 100000
attribute [local go_sem] Ext.cell Ext.frozen
def Ex:Value→World→Prop:=fun v w=>∃g sa sb,v= .slice (some ⟨g,0,none⟩) 2 2∧w.cell? ⟨g,0,none⟩=some sa∧w.cell? ⟨g,1,none⟩=some sb∧SolV w sa exA∧SolV w sb exB
theorem eK:dR Ex:=fun _ _ _ hb ⟨g,sa,sb,e,k0,k1,k2,k3⟩=>⟨g,sa,sb,e,ab hb k0,ab hb k1,SolV.below k2 hb,SolV.below k3 hb⟩
def Ey (css:List (List Q4)):Value→World→Prop:=fun v w=>∃g i sv,v= .pointer (some ⟨g,i,none⟩)∧w.cell? ⟨g,i,none⟩=some sv∧SolV w sv css
theorem NV (css:List (List Q4)):dR (Ey css):=fun _ _ _ hb ⟨g,i,sv,e,k0,k1⟩=>⟨g,i,sv,e,ab hb k0,SolV.below k1 hb⟩
def Ez (css:List (List Q4)):Value→World→Prop:=fun v w=>∃sv,v= .agg #[sv]∧SolV w sv css
theorem gu (css:List (List Q4)):dR (Ez css):=fun _ _ _ hb ⟨sv,e,k⟩=>⟨sv,e,SolV.below k hb⟩
section
variable {P:Program} {ops:Array Oper} {md:Region.Mode} {Q:Exit→Act→World→Prop} {R:Nat→Value→World→Prop} {w0:World} {F:(Nat→Value)→Act→Prop} {zi:List Nat} {i:Nat} {l:List Nat} {vals:Nat→Value} {a:Act} {o:Oper} {d:Nat}
theorem MM (ho:ops[i]? =some o) (hd:o.dst=some d) (hlt:d<a.tmps.size) (hg:o.guard=none) (hz:zi.contains i=false)
  (h:∃c,(∀u:Ext w0,(∀j,Region.waitsFor md ops i j=true→R j (vals j) u.val)→∀K:Act→World→Prop,(∀w'',Below u.val.heap.size u.val w''→K (a.put (some d) c) w'')→o.wp P a u.val K (NoPanic Q))∧R i=IsV c∧wpK P md ops R w0 Q zi F l (upd vals i c) (a.put (some d) c)):wpK P md ops R w0 Q zi F (i::l) vals a:=by
 obtain⟨c,h1,h2,h3⟩:=h
 have e:aM ops i=some d:=by simp[aM,ho,hd]
 refine⟨fun w' hb hR=> ?_, .inl ⟨c,fun v w hv=>by rw[h2]at hv;exact hv,by rw[e];exact h3⟩⟩
 rw[if_neg (by rw[hz];simp)]
 refine⟨o,d,ho,hd,hlt, ?_⟩
 rw[if_pos (by unfold Region.wanted;rw[hg])]
 exact h1 ⟨w',hb⟩ hR _ fun w'' hb'=>⟨c,by rw[hd],hb',by rw[h2];rfl⟩
end
theorem Mw:∀s∈exL,∀c∈s,c.length≤1000000:=by decide
theorem MN (W:World) (sv tv:Value) (h1:SolV W sv exA) (h2:SolV W tv exB):Calls Tryz.prog 12 #[.agg #[sv], .agg #[tv], .agg #[.int .i64 1, .int .i64 1, .int .i64 0]] W (Ret W (.tuple #[.bool true, .int .i64 0])):=by
 have h:=CO exA exB sv tv 1 1 0 W (by decide) (by decide) h1 h2
 rw[Lt,Mk]at h
 exact h
theorem MO (W:World) (sv tv:Value) (h1:SolV W sv exA) (h2:SolV W tv exB):Calls Tryz.prog 12 #[.agg #[sv], .agg #[tv], .agg #[.int .i64 0, .int .i64 1, .int .i64 0]] W (Ret W (.tuple #[.bool false, .int .i64 0])):=by
 have h:=CO exA exB sv tv 0 1 0 W (by decide) (by decide) h1 h2
 rw[Lu,Ml]at h
 exact h
theorem DU {w:World} {B n:Nat} {v:Value} {l:List Nat} (h:w.ownsRow B 3 1 v n (l.map iV)) (hn:n=l.length):Ints w v (l.map fun n:Nat=>(n:Int)):=by
 subst hn
 refine jy (base:=B) (T:=3) ?_
 rw[List.length_map,List.map_map]
 exact h
def MZ (W:World) (e:Ending) (w':World):Prop:=∃gv ov,e= .returned (.tuple #[.agg #[gv,ov, .int .i64 (-1), .int .i64 (-1), .int .i64 (-1)], .bool true, .int .i64 0])∧Below W.heap.size W w'∧Ints w' gv [0,1]∧Ints w' ov [0]
theorem Na (W:World) (lv nv:Value) (h:SolsV W lv exL) (hn:Ints W nv [0,1]) (hT:TabAt 1 Lib.deBruijn64tab W):Calls Tryz.prog 22 #[lv,nv] W (MZ W):=by
 refine(Iy exL [0,1] lv nv W Mw (by decide) h hn hT (fun h=>KE h)).mono ?_
 rintro e w' ⟨hb,⟨h1, -⟩|⟨h1,h2, -⟩|⟨h1,v,o,cs,hv,h2,he,hs⟩⟩
 ·exact absurd Mn h1
 ·rw[Fu]at h2;cases h2
 ·rw[Fu]at h2
  injection h2 with h2
  injection h2 with h3 h4
  subst h3 h4
  obtain⟨gv,ov,rfl,o1,o2⟩:=hs
  rw[Lv,Mo]at o1
  rw[Mp]at o2
  exact⟨gv,ov,he,hb,DU o1 rfl,DU o2 rfl⟩
theorem Nb (W:World) (v:Value) (h:Kj W v [([0,1],[0],(-1, -1, -1))]) (htab:Lib.TabIs Tryz.prog W "internal/strconv.uint64pow10" .u64 Lib.pow10Tab):
  Calls Tryz.prog 23 #[v] W (Ret W (.tuple #[.string ⟨#[48,44,49,32,48,32,45,49,32,45,49,32,45,49,10]⟩, .int .i64 0])):=by
 have h:=IA _ v W (by decide) h htab
 rw[Lw,Lx]at h
 exact h
theorem KF {w:World} {g:Nat} {sa sb:Value} (k0:w.cell? ⟨g,0,none⟩=some sa) (k1:w.cell? ⟨g,1,none⟩=some sb) (k2:SolV w sa exA) (k3:SolV w sb exB):SolsV w (.slice (some ⟨g,0,none⟩) 2 2) exL:=
 ⟨_,_,_,rfl,rfl,Nat.le_refl _,fun _=>⟨g,0,rfl,fun i hi=>by
  match i,hi with
  |0,_=>exact⟨sa,k0,k2⟩
  |1,_=>exact⟨sb,k1,k3⟩⟩⟩
theorem IM {w:World} {g:Nat} {gv ov:Value} {T:TypeId} (h:w.heap[g]? =some (.cells #[gv,ov, .int .i64 (-1), .int .i64 (-1), .int .i64 (-1)] T (0,0))) (h1:Ints w gv [0,1]) (h2:Ints w ov [0]):Kj w (.slice (some ⟨g,0,none⟩) 1 1) [([0,1],[0],(-1, -1, -1))]:=
 ⟨_,_,_,rfl,rfl,Nat.le_refl _,fun _=>⟨g,0,rfl,fun i hi=>by
  have:i=0:=by simpa using hi
  subst this
  exact⟨gv,ov,(ag h 0).trans rfl,(ag h 1).trans rfl,(ag h 2).trans rfl,(ag h 3).trans rfl,(ag h 4).trans rfl,h1,h2⟩⟩⟩
theorem Gv (W:World) (htab:Lib.TabIs Tryz.prog W "internal/strconv.uint64pow10" .u64 Lib.pow10Tab) (hT:TabAt 1 Lib.deBruijn64tab W):Calls Tryz.prog 6 #[] W (Ret W (.bool true)):=by
 have HPr:=fun W'=>Lib.hid (Kn W')
 have HB1:=fun W' sv tv h1 h2=>Lib.hid (MN W' sv tv h1 h2)
 have HB2:=fun W' sv tv h1 h2=>Lib.hid (MO W' sv tv h1 h2)
 have HF:=fun W' (hb:Below W.heap.size W W') lv nv h hn=>Lib.hid (Na W' lv nv h hn (ma hT hb))
 have HPt:=fun W' (hb:Below W.heap.size W W') v h=>Lib.hid (Nb W' v h (kl htab hb))
 clear htab hT
 go_enter Tryz.func6,Tryz.ntmps6
 go_wp2
 apply aj [11] [0,1,2,3,4,5,6,7,8,9,10,11] 12 [] [⟨Ex,by first|exact eK|exact NV _|exact gu _⟩,⟨Ey exA,by first|exact eK|exact NV _|exact gu _⟩,⟨Ez exA,by first|exact eK|exact NV _|exact gu _⟩,⟨Ex,by first|exact eK|exact NV _|exact gu _⟩,⟨Ey exB,by first|exact eK|exact NV _|exact gu _⟩,⟨Ez exB,by first|exact eK|exact NV _|exact gu _⟩,sv _,sv _,sv _,sv _,sv _,sv _] (by kernel_rfl) (by kernel_rfl)
 try go_frame
 refine wkU (fun u hR K hK=> ?_) (fun o0=> ?_)
 ·clear hR
  go_simp
  refine((HPr _).out).mono ?_
  rintro e w9 ⟨g,sa,sb,rfl,hb9,k0,k1,k2,k3⟩
  exact hK _ _ hb9 ⟨g,sa,sb,rfl,k0,k1,k2,k3⟩
 try go_frame
 refine wkU (fun u hR K hK=> ?_) (fun o1=> ?_)
 ·have h0:Ex o0 u.val:=hr hR 0
  clear hR
  obtain⟨g,sa,sb,rfl,k0,k1,k2,k3⟩:=h0
  go_simp
  exact hK _ _ (Below.refl _ _) ⟨g,0,sa,rfl,k0,k2⟩
 try go_frame
 refine wkU (fun u hR K hK=> ?_) (fun o2=> ?_)
 ·have h1:Ey exA o1 u.val:=hr hR 1
  clear hR
  obtain⟨g,i,sa,rfl,k0,k2⟩:=h1
  have zl:=World.block_lt_of_cell? u.val _ k0
  go_simp
  exact hK _ _ (Below.refl _ _) ⟨sa,rfl,k2⟩
 try go_frame
 refine wkU (fun u hR K hK=> ?_) (fun o3=> ?_)
 ·clear hR
  go_simp
  refine((HPr _).out).mono ?_
  rintro e w9 ⟨g,sa,sb,rfl,hb9,k0,k1,k2,k3⟩
  exact hK _ _ hb9 ⟨g,sa,sb,rfl,k0,k1,k2,k3⟩
 try go_frame
 refine wkU (fun u hR K hK=> ?_) (fun o4=> ?_)
 ·have h3:Ex o3 u.val:=hr hR 3
  clear hR
  obtain⟨g,sa,sb,rfl,k0,k1,k2,k3⟩:=h3
  go_simp
  exact hK _ _ (Below.refl _ _) ⟨g,1,sb,rfl,k1,k3⟩
 try go_frame
 refine wkU (fun u hR K hK=> ?_) (fun o5=> ?_)
 ·have h4:Ey exB o4 u.val:=hr hR 4
  clear hR
  obtain⟨g,i,sa,rfl,k0,k2⟩:=h4
  have zl:=World.block_lt_of_cell? u.val _ k0
  go_simp
  exact hK _ _ (Below.refl _ _) ⟨sa,rfl,k2⟩
 ((try go_frame);refine wkQ ?_)
 try go_frame
 refine MM rfl rfl (by simp) rfl rfl ?_
 apply ex3
 ·intro u hR K hK
  have h2:Ez exA o2 u.val:=hr hR 2
  have h5:Ez exB o5 u.val:=hr hR 5
  clear hR
  obtain⟨sa,rfl,k1⟩:=h2
  obtain⟨sb,rfl,k2⟩:=h5
  go_simp
  refine((HB1 _ _ _ k1 k2).out).mono ?_
  rintro e w9 ⟨rfl,hb9⟩
  exact hK _ hb9
 rfl
 iterate 3 ((try go_frame);refine wkQ ?_)
 try go_frame
 refine wkz rfl rfl rfl rfl ?_
 apply Exists.intro
 apply And.intro
 ·intro w9
  go_simp
  try rfl
 refine⟨rfl, ?_⟩
 try go_frame
 refine aI (fun u hR=> ?_)
 have hb1:=u.below
 clear hR
 generalize u.val=w1 at*
 clear u
 simp only[oas]
 go_wp2
 refine NoPanic.normal ?_
 go_wp2
 clear HB1
 apply aj [11] [0,1,2,3,4,5,6,7,8,9,10,11] 12 [] [⟨Ex,by first|exact eK|exact NV _|exact gu _⟩,⟨Ey exA,by first|exact eK|exact NV _|exact gu _⟩,⟨Ez exA,by first|exact eK|exact NV _|exact gu _⟩,⟨Ex,by first|exact eK|exact NV _|exact gu _⟩,⟨Ey exB,by first|exact eK|exact NV _|exact gu _⟩,⟨Ez exB,by first|exact eK|exact NV _|exact gu _⟩,sv _,sv _,sv _,sv _,sv _,sv _] (by kernel_rfl) (by kernel_rfl)
 try go_frame
 refine wkU (fun u hR K hK=> ?_) (fun o0=> ?_)
 ·clear hR
  go_simp
  refine((HPr _).out).mono ?_
  rintro e w9 ⟨g,sa,sb,rfl,hb9,k0,k1,k2,k3⟩
  exact hK _ _ hb9 ⟨g,sa,sb,rfl,k0,k1,k2,k3⟩
 try go_frame
 refine wkU (fun u hR K hK=> ?_) (fun o1=> ?_)
 ·have h0:Ex o0 u.val:=hr hR 0
  clear hR
  obtain⟨g,sa,sb,rfl,k0,k1,k2,k3⟩:=h0
  go_simp
  exact hK _ _ (Below.refl _ _) ⟨g,0,sa,rfl,k0,k2⟩
 try go_frame
 refine wkU (fun u hR K hK=> ?_) (fun o2=> ?_)
 ·have h1:Ey exA o1 u.val:=hr hR 1
  clear hR
  obtain⟨g,i,sa,rfl,k0,k2⟩:=h1
  have zl:=World.block_lt_of_cell? u.val _ k0
  go_simp
  exact hK _ _ (Below.refl _ _) ⟨sa,rfl,k2⟩
 try go_frame
 refine wkU (fun u hR K hK=> ?_) (fun o3=> ?_)
 ·clear hR
  go_simp
  refine((HPr _).out).mono ?_
  rintro e w9 ⟨g,sa,sb,rfl,hb9,k0,k1,k2,k3⟩
  exact hK _ _ hb9 ⟨g,sa,sb,rfl,k0,k1,k2,k3⟩
 try go_frame
 refine wkU (fun u hR K hK=> ?_) (fun o4=> ?_)
 ·have h3:Ex o3 u.val:=hr hR 3
  clear hR
  obtain⟨g,sa,sb,rfl,k0,k1,k2,k3⟩:=h3
  go_simp
  exact hK _ _ (Below.refl _ _) ⟨g,1,sb,rfl,k1,k3⟩
 try go_frame
 refine wkU (fun u hR K hK=> ?_) (fun o5=> ?_)
 ·have h4:Ey exB o4 u.val:=hr hR 4
  clear hR
  obtain⟨g,i,sa,rfl,k0,k2⟩:=h4
  have zl:=World.block_lt_of_cell? u.val _ k0
  go_simp
  exact hK _ _ (Below.refl _ _) ⟨sa,rfl,k2⟩
 ((try go_frame);refine wkQ ?_)
 try go_frame
 refine MM rfl rfl (by simp) rfl rfl ?_
 apply ex3
 ·intro u hR K hK
  have h2:Ez exA o2 u.val:=hr hR 2
  have h5:Ez exB o5 u.val:=hr hR 5
  clear hR
  obtain⟨sa,rfl,k1⟩:=h2
  obtain⟨sb,rfl,k2⟩:=h5
  go_simp
  refine((HB2 _ _ _ k1 k2).out).mono ?_
  rintro e w9 ⟨rfl,hb9⟩
  exact hK _ hb9
 rfl
 iterate 3 ((try go_frame);refine wkQ ?_)
 try go_frame
 refine wkz rfl rfl rfl rfl ?_
 apply Exists.intro
 apply And.intro
 ·intro w9
  go_simp
  try rfl
 refine⟨rfl, ?_⟩
 try go_frame
 refine aI (fun u hR=> ?_)
 have hb2:=fB hb1 u.below
 clear hR
 generalize u.val=w2 at*
 clear u hb1
 simp only[oas]
 go_wp2
 refine NoPanic.normal ?_
 clear HB2
 go_wp2_with fail
 refine((HPr _).out).mono ?_
 rintro e w3 ⟨g,sa,sb,rfl,hb3,k0,k1,k2,k3⟩
 have hW3:=fB hb2 hb3
 have HSs:=Lib.hid (KF k0 k1 k2 k3)
 clear k0 k1 k2 k3 HPr
 have hbi:Below w3.heap.size w3 (w3.alloc (.cells #[.int .i64 0, .int .i64 1] 3)):=bel
 have HFx:=Lib.hid (HF (w3.alloc (.cells #[.int .i64 0, .int .i64 1] 3)) (fB hW3 hbi) (.slice (some ⟨g,0,none⟩) 2 2) (.slice (some ⟨w3.heap.size,0,none⟩) 2 2) (SolsV.below HSs.out hbi) (Fv (T:=3) [0,1] rfl)).out
 clear HF
 go_wp2_with fail
 refine HFx.out.mono ?_
 rintro e w4 ⟨gv,ov,rfl,hb4,hg,ho⟩
 have HG:=Lib.hid hg
 have HO:=Lib.hid ho
 have hW4:=fB (fB hW3 hbi) hb4
 clear hg ho HSs HFx
 have hbs:Below w4.heap.size w4 ((w4.alloc (.cells #[gv,ov, .int .i64 (-1), .int .i64 (-1), .int .i64 (-1)] 50)).alloc (.cells #[gv,ov, .int .i64 (-1), .int .i64 (-1), .int .i64 (-1)] 50)):=bel
 have HPx:=Lib.hid (HPt _ (fB hW4 hbs) (.slice (some ⟨w4.heap.size+1,0,none⟩) 1 1) (IM (by exact ai (by simp)) (HG.out.below hbs) (HO.out.below hbs))).out
 clear HPt
 obtain⟨ga,gn,gc,rfl, -⟩:=id HG.out
 obtain⟨oa,on,oc,rfl, -⟩:=id HO.out
 go_wp2_with fail
 refine HPx.out.mono ?_
 rintro e w5 ⟨rfl,hb5⟩
 have hW5:=fB (fB hW4 hbs) hb5
 clear HPx HG HO
 go_wp2
 go_ret
 exact⟨ay (by first|rfl|simp),hW5⟩
end
section
open Go.RowKit Go.Shelf
theorem tG {w:World} {base:Nat} {T:TypeId} {g n c:Nat} {cs:List Q4} (h:w.ownsRow base T 4 (.slice (some ⟨g,0,none⟩) n c) cs.length (cs.flatMap aH)):Q4At w g 0 cs:=by
 obtain⟨a,n',c',e,hn,_,hx⟩:=dV h
 intro i hi
 obtain⟨b,off,rfl,h4⟩:=hx (by omega)
 cases e
 exact h4 i hi
theorem mB {w:World} {g:Nat} {A:List Q4} (h:Q4At w g 0 A) (k:Nat):∀j u,((A.take k).flatMap aH)[j]? =some u→w.cell? ((⟨g,0,none⟩:Addr).add j)=some u:=by
 intro j u hu
 rw[jY]
 have hlen:∀l:List Q4,(l.flatMap aH).length=l.length*4:=fun l=>by
  induction l with
  |nil=>rfl
  |cons x l ih=>rw[List.flatMap_cons,List.length_append,ih,List.length_cons];simp[aH];omega
 have hj:j<((A.take k).flatMap aH).length:=(List.getElem?_eq_some_iff.1 hu).1
 rw[hlen]at hj
 obtain⟨i,r,hr,rfl⟩:∃i r,r<4∧j=i*4+r:=⟨j / 4,j % 4,by omega,by omega⟩
 have hi:i<(A.take k).length:=by omega
 rw[eQ aH 4 (fun _=>rfl) _ i hi r hr]at hu
 have hi2:i<A.length:=by simp at hi;omega
 obtain⟨c0,c1,c2,c3⟩:=h i hi2
 rw[List.getElem_take]at hu
 simp only[Nat.zero_add]at c0 c1 c2 c3
 rcases(by omega:r=0∨r=1∨r=2∨r=3)with rfl|rfl|rfl|rfl
 ·rw[←hu];exact c0
 ·rw[←hu];exact c1
 ·rw[←hu];exact c2
 ·rw[←hu];exact c3
theorem vH {w:World} {g:Nat} {A:List Q4} (h:Q4At w g 0 A) (k:Nat):∀j u,((A.drop k).flatMap aH)[j]? =some u→w.cell? ⟨g,k*4+j,none⟩=some u:=by
 intro j u hu
 have hlen:∀l:List Q4,(l.flatMap aH).length=l.length*4:=fun l=>by
  induction l with
  |nil=>rfl
  |cons x l ih=>rw[List.flatMap_cons,List.length_append,ih,List.length_cons];simp[aH];omega
 have hj:j<((A.drop k).flatMap aH).length:=(List.getElem?_eq_some_iff.1 hu).1
 rw[hlen]at hj
 obtain⟨i,r,hr,rfl⟩:∃i r,r<4∧j=i*4+r:=⟨j / 4,j % 4,by omega,by omega⟩
 have hi:i<(A.drop k).length:=by omega
 rw[eQ aH 4 (fun _=>rfl) _ i hi r hr]at hu
 have hi2:k+i<A.length:=by simp at hi;omega
 obtain⟨c0,c1,c2,c3⟩:=h (k+i) hi2
 rw[List.getElem_drop]at hu
 simp only[Nat.zero_add,Nat.add_mul]at c0 c1 c2 c3
 rcases(by omega:r=0∨r=1∨r=2∨r=3)with rfl|rfl|rfl|rfl
 ·rw[←hu];exact c0
 ·rw[←hu];exact c1
 ·rw[←hu];exact c2
 ·rw[←hu];exact c3
theorem gD {w:World} {g:Nat} {A:List Q4} (h:Q4At w g 0 A) (k:Nat):∀j u,((A.drop k).flatMap aH)[j]? =some u→w.cell? ((⟨g,k*4,none⟩:Addr).add j)=some u:=fun j u hu=>by
 rw[vp]
 exact vH h k j u hu
end
section
open Go.RowKit Go.Shelf
attribute [local go_sem] Ext.cell Ext.frozen
theorem Oc:Tryz.prog.underlying 66=some (.slice 127):=by kernel_rfl
def NX (n:Nat):Bool:=decide (n≤8) || (decide (16<n)&&decide (n≤20))
set_option maxRecDepth 100000 in
theorem QC (a:Option Addr) (n c:Nat) (W:World):Calls Tryz.prog 28 #[.agg #[.slice a n c]] W (Ret W (.bool (NX n))):=by
 obtain⟨r,HR⟩:∃r,Hid (NX n=r):=⟨_,Lib.hid rfl⟩
 rw[HR.out]
 by_cases h8:n≤8
 ·have g1:(n:Int)≤8:=by omega
  obtain rfl:r=true:=by rw[←HR.out];unfold NX;rw[decide_eq_true h8];rfl
  clear HR
  go_enter Tryz.func28,Tryz.ntmps28
  go_wp2
  go_ret
  exact⟨ay (by simp),bel⟩
 ·have g1:¬(n:Int)≤8:=by omega
  by_cases h16:16<n
  ·have g2:(16:Int)<(n:Int):=by omega
   by_cases h20:n≤20
   ·have g3:(n:Int)≤20:=by omega
    obtain rfl:r=true:=by rw[←HR.out];unfold NX;rw[decide_eq_true h16,decide_eq_true h20];simp
    clear HR
    go_enter Tryz.func28,Tryz.ntmps28
    go_wp2
    go_ret
    exact⟨ay (by simp),bel⟩
   ·have g3:¬(n:Int)≤20:=by omega
    obtain rfl:r=false:=by rw[←HR.out];unfold NX;rw[decide_eq_false h8,decide_eq_false h20];simp
    clear HR
    go_enter Tryz.func28,Tryz.ntmps28
    go_wp2
    go_ret
    exact⟨ay (by simp),bel⟩
  ·have g2:¬(16:Int)<(n:Int):=by omega
   obtain rfl:r=false:=by rw[←HR.out];unfold NX;rw[decide_eq_false h8,decide_eq_false h16];simp
   clear HR
   go_enter Tryz.func28,Tryz.ntmps28
   go_wp2
   go_ret
   exact⟨ay (by simp),bel⟩
def Qh (m n:Nat):Bool:=decide (n≤m) || (decide (100<n)&&decide (n≤105))
def Oa (m:Nat) (css:List (List Q4)):Bool:=Qh m css.length&&css.all fun c=>NX c.length
set_option maxRecDepth 100000 in
theorem PQ (m:Nat) (css:List (List Q4)) (sv:Value) (W:World) (hm:m≤100) (hl:css.length≤maxLen) (h:SolV W sv css):
  Calls Tryz.prog 11 #[.agg #[sv], .int .i64 m] W (Ret W (.bool (Oa m css))):=by
 obtain⟨sa,n,sc,rfl,hn, -,hx⟩:=h
 have HX:=Lib.hid hx
 have HN:=Lib.hid hn
 have HSl:=fun a n c W'=>Lib.hid (QC a n c W')
 have hn':n≤maxLen:=by omega
 have Hc0:Hid (Qh m n=false→Oa m css=false):=Lib.hid (fun h=>by unfold Oa;rw[hn,h];rfl)
 have Hhit:Hid (∀i (hi:i<css.length),NX css[i].length=false→Oa m css=false):=Lib.hid (fun i hi h=>by
  unfold Oa
  rw[Bool.and_eq_false_iff]
  refine .inr ?_
  rw[List.all_eq_false]
  exact⟨css[i],List.getElem_mem hi,by simpa using h⟩)
 have Hall:Hid (Qh m n=true→(∀i (hi:i<css.length),NX css[i].length=true)→Oa m css=true):=Lib.hid (fun h h2=>by
  unfold Oa
  rw[hn,h,Bool.true_and,List.all_eq_true]
  intro c hc
  obtain⟨i,hi,rfl⟩:=List.getElem_of_mem hc
  exact h2 i hi)
 obtain⟨V,HV⟩:∃V,Hid (W.alloc (.cells #[.slice sa n sc] 31)=V):=⟨_,Lib.hid rfl⟩
 have hV:Below W.heap.size W V:=by rw[←HV.out];exact bel
 have HA:Hid (V.heap[W.heap.size]? =some (.cells #[.slice sa n sc] 31 (0,0))):=Lib.hid (by rw[←HV.out];exact ai rfl)
 have v0:V.cell? ⟨W.heap.size,0,none⟩=some (.slice sa n sc):=(ag HA.out 0).trans rfl
 have vz:=ah HA.out
 clear hx hn hl
 generalize Oa m css=res at*
 have key:∀g:Bool,Qh m n=g→Hid ((g=true→(n≤m∨100<n∧n≤105))∧(g=false→(m<n∧n≤100)∨105<n)):=fun g hg=>Lib.hid (by
  unfold Qh at hg
  subst hg
  refine⟨fun h=> ?_,fun h=> ?_⟩
  ·simp only[Bool.or_eq_true,Bool.and_eq_true,decide_eq_true_eq]at h;omega
  ·simp only[Bool.or_eq_false_iff,Bool.and_eq_false_iff,decide_eq_false_iff_not]at h;omega)
 obtain⟨g,hg⟩:∃g,Qh m n=g:=⟨_,rfl⟩
 have Hk:=key g hg
 rw[hg]at Hc0 Hall
 clear key hg
 cases g with
 |false=>
  have hr:=Hc0.out (by first|rfl|trivial)
  rcases Hk.out.2 (by first|rfl|trivial)with⟨k1,k2⟩|k1
  ·have g1:(m:Int)<(n:Int):=by omega
   have g2:(n:Int)≤100:=by omega
   clear Hc0 Hhit Hall Hk HX HSl
   go_enter Tryz.func11,Tryz.ntmps11
   go_wp2
   go_ret
   exact⟨by first|(rw[hr];rfl)|rfl,by rw[HV.out];exact hV⟩
  ·have g1:(m:Int)<(n:Int):=by omega
   have g2:¬(n:Int)≤100:=by omega
   have g3:(105:Int)<(n:Int):=by omega
   clear Hc0 Hhit Hall Hk HX HSl
   go_enter Tryz.func11,Tryz.ntmps11
   go_wp2
   go_ret
   exact⟨by first|(rw[hr];rfl)|rfl,by rw[HV.out];exact hV⟩
 |true=>
  have hk:=Hk.out.1 (by first|rfl|trivial)
  have g3:¬(105:Int)<(n:Int):=by omega
  have hn105:n≤105:=by omega
  by_cases hmn:n≤m
  ·have g4:¬(m:Int)<(n:Int):=by omega
   clear Hc0 Hk hk
   go_enter Tryz.func11,Tryz.ntmps11
   go_wp2
   try rw[HV.out]
   clear HV
   go_loopw [5] (fun x wr=>∃k:Nat,k≤n∧x= .int .i64 k∧Below V.heap.size V wr∧Hid (∀i (hi:i<css.length),i<k→NX css[i].length=true)) (fun x _=>n-(intOf x).toNat)
   case atStart=>exact⟨0,by omega,rfl,Below.refl _ _,Lib.hid (fun i _ h=>by omega)⟩
   case round=>
    obtain⟨k,hk,rfl,hb,Hd⟩:=hrel
    have r0:=ab hb v0
    have rz:=Nat.lt_of_lt_of_le vz hb.size
    by_cases hlt:k<n
    ·have g1:(k:Int)<(n:Int):=by omega
     have g2:(0:Int)≤(k:Int):=by omega
     have hil:k<css.length:=by have:=HN.out;omega
     obtain⟨b,off,rfl,hi4⟩:=HX.out (by omega)
     obtain⟨pv,e0,hs⟩:=hi4 k hil
     have e0:=ab (fB hV hb) e0
     have ze:=World.block_lt_of_cell? wr _ e0
     simp only at ze
     obtain⟨pa,pn,pc,rfl,hpn, -⟩:=hs
     have HS:=fun W'=>Lib.hid (HSl pa pn pc W').out
     have Hh:=Lib.hid (Hhit.out k hil)
     have Hst:Hid (NX css[k].length=true→∀i (hi:i<css.length),i<k+1→NX css[i].length=true):=Lib.hid (fun h i hi hik=>by
      by_cases e:i=k
      ·subst e;exact h
      ·exact Hd.out i hi (by omega))
     rw[hpn]at Hh Hst
     clear hpn hi4 HX Hhit Hall Hd HSl v0 vz
     generalize NX pn=sl at*
     go_wp2_with fail
     refine((HS _).out).mono ?_
     rintro e w2 ⟨rfl,hb2⟩
     cases sl with
     |true=>
      have HF:=Lib.hid (Hst.out rfl)
      clear HS Hh Hst
      go_wp2
      go_roundw
      case rel=>exact⟨k+1,by omega,by go_num,fB hb hb2,HF⟩
      case measure=>first|(simp[intOf];done)|(simp[intOf];omega)
     |false=>
      have hr:=Hh.out rfl
      have hw:=fB (fB hV hb) hb2
      clear HS Hh Hst
      go_wp2
      go_ret
      exact⟨by first|(rw[hr];rfl)|rfl,hw⟩
    ·obtain rfl:n=k:=by omega
     have hr:=Hall.out (by first|rfl|trivial) (fun i hi=>Hd.out i hi (by have:=HN.out;omega))
     have hw:=fB hV hb
     clear HX Hhit Hall Hd HSl
     go_wp2
     go_ret
     exact⟨by first|(rw[hr];rfl)|rfl,hw⟩
  ·have g4:(m:Int)<(n:Int):=by omega
   have g5:¬(n:Int)≤100:=by omega
   clear Hc0 Hk hk
   go_enter Tryz.func11,Tryz.ntmps11
   go_wp2
   try rw[HV.out]
   clear HV
   go_loopw [5] (fun x wr=>∃k:Nat,k≤n∧x= .int .i64 k∧Below V.heap.size V wr∧Hid (∀i (hi:i<css.length),i<k→NX css[i].length=true)) (fun x _=>n-(intOf x).toNat)
   case atStart=>exact⟨0,by omega,rfl,Below.refl _ _,Lib.hid (fun i _ h=>by omega)⟩
   case round=>
    obtain⟨k,hk,rfl,hb,Hd⟩:=hrel
    have r0:=ab hb v0
    have rz:=Nat.lt_of_lt_of_le vz hb.size
    by_cases hlt:k<n
    ·have g1:(k:Int)<(n:Int):=by omega
     have g2:(0:Int)≤(k:Int):=by omega
     have hil:k<css.length:=by have:=HN.out;omega
     obtain⟨b,off,rfl,hi4⟩:=HX.out (by omega)
     obtain⟨pv,e0,hs⟩:=hi4 k hil
     have e0:=ab (fB hV hb) e0
     have ze:=World.block_lt_of_cell? wr _ e0
     simp only at ze
     obtain⟨pa,pn,pc,rfl,hpn, -⟩:=hs
     have HS:=fun W'=>Lib.hid (HSl pa pn pc W').out
     have Hh:=Lib.hid (Hhit.out k hil)
     have Hst:Hid (NX css[k].length=true→∀i (hi:i<css.length),i<k+1→NX css[i].length=true):=Lib.hid (fun h i hi hik=>by
      by_cases e:i=k
      ·subst e;exact h
      ·exact Hd.out i hi (by omega))
     rw[hpn]at Hh Hst
     clear hpn hi4 HX Hhit Hall Hd HSl v0 vz
     generalize NX pn=sl at*
     go_wp2_with fail
     refine((HS _).out).mono ?_
     rintro e w2 ⟨rfl,hb2⟩
     cases sl with
     |true=>
      have HF:=Lib.hid (Hst.out rfl)
      clear HS Hh Hst
      go_wp2
      go_roundw
      case rel=>exact⟨k+1,by omega,by go_num,fB hb hb2,HF⟩
      case measure=>first|(simp[intOf];done)|(simp[intOf];omega)
     |false=>
      have hr:=Hh.out rfl
      have hw:=fB (fB hV hb) hb2
      clear HS Hh Hst
      go_wp2
      go_ret
      exact⟨by first|(rw[hr];rfl)|rfl,hw⟩
    ·obtain rfl:n=k:=by omega
     have hr:=Hall.out (by first|rfl|trivial) (fun i hi=>Hd.out i hi (by have:=HN.out;omega))
     have hw:=fB hV hb
     clear HX Hhit Hall Hd HSl
     go_wp2
     go_ret
     exact⟨by first|(rw[hr];rfl)|rfl,hw⟩
end
end Go.Proofs.YtleamcmbhioedaaGreatDoor
