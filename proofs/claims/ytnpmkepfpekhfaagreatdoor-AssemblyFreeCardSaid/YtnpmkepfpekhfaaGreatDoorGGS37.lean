/- texts: O3 MU GQ AC1 SR AC2 AC3 AC4 AC5 AC6 AC7. -/
import Derived.Test.YtnpmkepfpekhfaaGreatDoorGGS36
namespace Go.Proofs.YtnpmkepfpekhfaaGreatDoor
set_option maxHeartbeats 8000000
set_option linter.all false
section
open Go.RowKit
theorem FF {ps:List Q4} (h:bK ps=0):Bdd ps∧Ins ps:=by
 unfold bK at h
 split at h
 ·cases h
 split at h
 ·contradiction
 split at h
 ·cases h
 rename_i hb
 split at h
 ·cases h
 rename_i hs
 have hb':bx ps=true:=by simpa using hb
 have hs':fh ps (aS ps)=true:=by simpa using hs
 refine⟨FA ps hb', ?_⟩
 unfold fh at hs'
 rw[qaF,decide_eq_true_eq,alsi]at hs'
 refine Mt ps (ct ps) hs'.2 (Ku ps) (fun p hp=> ?_)
 have h1:=hs'.1 p hp
 unfold gM at h1
 rw[List.any_eq_true]at h1
 obtain⟨c,hc,h2⟩:=h1
 have h2:=of_decide_eq_true h2
 rw[mt,dp]at h2
 exact⟨c,((mc ps).2 c).2 (pq hc),h2⟩
theorem FG {ps:List Q4} (h:bK ps=0):Rep (bp ps) ps:=KB (FF h).1 (FF h).2
theorem IL {css:List (List Q4)} (h:Tv css=0):∀c∈css,bK c=0:=by
 unfold Tv at h
 split at h
 ·cases h
 ·exact Dr h
theorem KC {α β:Type} (l:List α) (m:List β) (f:α→β→Bool):(l.any fun a=>m.any fun b=>f a b)=m.any fun b=>l.any fun a=>f a b:=by
 rw[Bool.eq_iff_iff]
 simp only[List.any_eq_true]
 constructor
 ·rintro⟨a,ha,b,hb,h⟩;exact⟨b,hb,a,ha,h⟩
 ·rintro⟨b,hb,a,ha,h⟩;exact⟨a,ha,b,hb,h⟩
theorem Gu {α β:Type} {l:List α} {m:List β} {f g:α→β→Bool} (h:∀a∈l,∀b∈m,f a b=g a b):(l.any fun a=>m.any fun b=>f a b)=l.any fun a=>m.any fun b=>g a b:=by
 rw[Bool.eq_iff_iff]
 simp only[List.any_eq_true]
 constructor
 ·rintro⟨a,ha,b,hb,e⟩;exact⟨a,ha,b,hb,by rw[←h a ha b hb];exact e⟩
 ·rintro⟨a,ha,b,hb,e⟩;exact⟨a,ha,b,hb,by rw[h a ha b hb];exact e⟩
theorem KD {p q:List (List Q4)} (hp:∀c∈p,bK c=0) (hq:∀c∈q,bK c=0) {w:Q3} (hw:w≠(0,0,0)):BT (q.map bp) (p.map bp) (Dy w)=BT (p.map bp) (q.map bp) w:=by
 unfold BT
 simp only[List.any_map,Function.comp_def]
 rw[KC]
 exact Gu fun c hc d hd=>Gt (FG (hp c hc)) (FG (hq d hd)) hw
theorem DT (l:List (List (List Q4))) (i:Nat):(l.map (·.map bp)).getD i []=(l.getD i []).map bp:=by
 simp only[List.getD,List.getElem?_map]
 cases l[i]? <;>rfl
theorem KE {l:List (List (List Q4))} (h:eB l=0):∀v∈ways26,∀i k,Cb (l.map (·.map bp)) (-v.1, -v.2.1, -v.2.2) k i=Cb (l.map (·.map bp)) v i k:=by
 intro v hv i k
 have hm:∀i,∀c∈l.getD i [],bK c=0:=fun i c hc=>by
  by_cases hi:i<l.length
  ·rw[show l.getD i []=l[i] by simp[List.getD,hi]]at hc
   exact IL ((sq h).2 _ (qaB hi)) c hc
  ·rw[show l.getD i []=[] by simp[List.getD,hi]]at hc
   cases hc
 unfold Cb
 rw[DT,DT]
 exact KD (hm i) (hm k) (by rintro rfl;have:=(Ef _ hv).2.2.2;simp at this)
end
section
open Go.RowKit Go.Shelf Go.Lib
set_option maxRecDepth 100000
attribute [local go_sem] Ext.cell Ext.frozen
def Ex:Value→World→Prop:=fun v w=>∃g sa sb,v= .slice (some ⟨g,0,none⟩) 2 2∧w.cell? ⟨g,0,none⟩=some sa∧w.cell? ⟨g,1,none⟩=some sb∧SolV w sa exA∧SolV w sb exB
theorem eK:dR Ex:=fun _ _ _ hb ⟨g,sa,sb,e,k0,k1,k2,k3⟩=>⟨g,sa,sb,e,ab hb k0,ab hb k1,SolV.below k2 hb,SolV.below k3 hb⟩
def Ey (css:List (List Q4)):Value→World→Prop:=fun v w=>∃g i sv,v= .pointer (some ⟨g,i,none⟩)∧w.cell? ⟨g,i,none⟩=some sv∧SolV w sv css
theorem NV (css:List (List Q4)):dR (Ey css):=fun _ _ _ hb ⟨g,i,sv,e,k0,k1⟩=>⟨g,i,sv,e,ab hb k0,SolV.below k1 hb⟩
def Ez (css:List (List Q4)):Value→World→Prop:=fun v w=>∃sv,v= .agg #[sv]∧SolV w sv css
theorem gu (css:List (List Q4)):dR (Ez css):=fun _ _ _ hb ⟨sv,e,k⟩=>⟨sv,e,SolV.below k hb⟩
section
variable {P:Program} {ops:Array Oper} {md:Region.Mode} {Q:Exit→Act→World→Prop} {R:Nat→Value→World→Prop} {w0:World} {F:(Nat→Value)→Act→Prop} {zi:List Nat} {i:Nat} {l:List Nat} {vals:Nat→Value} {a:Act} {o:Oper} {d:Nat}
theorem MM (ho:ops[i]? =some o) (hd:o.dst=some d) (hlt:d<a.tmps.size) (hg:o.guard=none) (hz:zi.contains i=false)
  (h:∃c,(∀u:Ext w0,(∀j,Region.waitsFor md ops i j=true→R j (vals j) u.val)→∀K:Act→World→Prop,(∀w'',Below u.val.heap.size u.val w''→K (a.put (some d) c) w'')→o.wp P a u.val K (NoPanic Q))∧R i=IsV c∧wpK P md ops R w0 Q zi F l (upd vals i c) (a.put (some d) c)):wpK P md ops R w0 Q zi F (i::l) vals a:=by
 obtain⟨c,h1,h2,h3⟩:=h
 have e:aM ops i=some d:=by simp[aM,ho,hd]
 refine⟨fun w' hb hR=> ?_, .inl ⟨c,fun v w hv=>by rw[h2]at hv;exact hv,by rw[e];exact h3⟩⟩
 rw[if_neg (by rw[hz];simp)]
 refine⟨o,d,ho,hd,hlt, ?_⟩
 rw[if_pos (by unfold Region.wanted;rw[hg])]
 exact h1 ⟨w',hb⟩ hR _ fun w'' hb'=>⟨c,by rw[hd],hb',by rw[h2];rfl⟩
end
theorem Mw:∀s∈exL,∀c∈s,c.length≤1000000:=by decide
theorem MN (W:World) (sv tv:Value) (h1:SolV W sv exA) (h2:SolV W tv exB):Calls Tryz.prog 41 #[.agg #[sv], .agg #[tv], .agg #[.int .i64 1, .int .i64 1, .int .i64 0]] W (Ret W (.tuple #[.bool true, .int .i64 0])):=by
 have h:=CO exA exB sv tv 1 1 0 W (by decide) (by decide) h1 h2
 rw[Lt,Mk]at h
 exact h
theorem MO (W:World) (sv tv:Value) (h1:SolV W sv exA) (h2:SolV W tv exB):Calls Tryz.prog 41 #[.agg #[sv], .agg #[tv], .agg #[.int .i64 0, .int .i64 1, .int .i64 0]] W (Ret W (.tuple #[.bool false, .int .i64 0])):=by
 have h:=CO exA exB sv tv 0 1 0 W (by decide) (by decide) h1 h2
 rw[Lu,Ml]at h
 exact h
theorem DU {w:World} {B n:Nat} {v:Value} {l:List Nat} (h:w.ownsRow B 3 1 v n (l.map iV)) (hn:n=l.length):Ints w v (l.map fun n:Nat=>(n:Int)):=by
 subst hn
 refine jy (base:=B) (T:=3) ?_
 rw[List.length_map,List.map_map]
 exact h
def MZ (W:World) (e:Ending) (w':World):Prop:=∃gv ov,e= .returned (.tuple #[.agg #[gv,ov, .int .i64 (-1), .int .i64 (-1), .int .i64 (-1)], .bool true, .int .i64 0])∧Below W.heap.size W w'∧Ints w' gv [0,1]∧Ints w' ov [0]
theorem Na (W:World) (lv nv:Value) (h:SolsV W lv exL) (hn:Ints W nv [0,1]) (hT:TabAt 1 Lib.deBruijn64tab W):Calls Tryz.prog 43 #[lv,nv] W (MZ W):=by
 refine(Iy exL [0,1] lv nv W Mw (by decide) h hn hT (fun h=>KE h)).mono ?_
 rintro e w' ⟨hb,⟨h1, -⟩|⟨h1,h2, -⟩|⟨h1,v,o,cs,hv,h2,he,hs⟩⟩
 ·exact absurd Mn h1
 ·rw[Fu]at h2;cases h2
 ·rw[Fu]at h2
  injection h2 with h2
  injection h2 with h3 h4
  subst h3 h4
  obtain⟨gv,ov,rfl,o1,o2⟩:=hs
  rw[Lv,Mo]at o1
  rw[Mp]at o2
  exact⟨gv,ov,he,hb,DU o1 rfl,DU o2 rfl⟩
theorem Nb (W:World) (v:Value) (h:Kj W v [([0,1],[0],(-1, -1, -1))]) (htab:Lib.TabIs Tryz.prog W "internal/strconv.uint64pow10" .u64 Lib.pow10Tab):
  Calls Tryz.prog 44 #[v] W (Ret W (.tuple #[.string ⟨#[48,44,49,32,48,32,45,49,32,45,49,32,45,49,10]⟩, .int .i64 0])):=by
 have h:=IA _ v W (by decide) h htab
 rw[Lw,Lx]at h
 exact h
theorem KF {w:World} {g:Nat} {sa sb:Value} (k0:w.cell? ⟨g,0,none⟩=some sa) (k1:w.cell? ⟨g,1,none⟩=some sb) (k2:SolV w sa exA) (k3:SolV w sb exB):SolsV w (.slice (some ⟨g,0,none⟩) 2 2) exL:=
 ⟨_,_,_,rfl,rfl,qaA _,fun _=>⟨g,0,rfl,fun i hi=>by
  match i,hi with
  |0,_=>exact⟨sa,k0,k2⟩
  |1,_=>exact⟨sb,k1,k3⟩⟩⟩
theorem IM {w:World} {g:Nat} {gv ov:Value} {T:TypeId} (h:w.heap[g]? =some (.cells #[gv,ov, .int .i64 (-1), .int .i64 (-1), .int .i64 (-1)] T (0,0))) (h1:Ints w gv [0,1]) (h2:Ints w ov [0]):Kj w (.slice (some ⟨g,0,none⟩) 1 1) [([0,1],[0],(-1, -1, -1))]:=
 ⟨_,_,_,rfl,rfl,qaA _,fun _=>⟨g,0,rfl,fun i hi=>by
  have:i=0:=by simpa using hi
  subst this
  exact⟨gv,ov,(ag h 0).trans rfl,(ag h 1).trans rfl,(ag h 2).trans rfl,(ag h 3).trans rfl,(ag h 4).trans rfl,h1,h2⟩⟩⟩
theorem Gv (W:World) (htab:Lib.TabIs Tryz.prog W "internal/strconv.uint64pow10" .u64 Lib.pow10Tab) (hT:TabAt 1 Lib.deBruijn64tab W):Calls Tryz.prog 10 #[] W (Ret W (.bool true)):=by
 have HPr:=fun W'=>YJ (Kn W')
 have HB1:=fun W' sv tv h1 h2=>YJ (MN W' sv tv h1 h2)
 have HB2:=fun W' sv tv h1 h2=>YJ (MO W' sv tv h1 h2)
 have HF:=fun W' (hb:Below W.heap.size W W') lv nv h hn=>YJ (Na W' lv nv h hn (ma hT hb))
 have HPt:=fun W' (hb:Below W.heap.size W W') v h=>YJ (Nb W' v h (kl htab hb))
 clear htab hT
 go_enter Tryz.func10,Tryz.ntmps10
 go_wp2
 apply aj [11] [0,1,2,3,4,5,6,7,8,9,10,11] 12 [] [⟨Ex,by first|exact eK|exact NV _|exact gu _⟩,⟨Ey exA,by first|exact eK|exact NV _|exact gu _⟩,⟨Ez exA,by first|exact eK|exact NV _|exact gu _⟩,⟨Ex,by first|exact eK|exact NV _|exact gu _⟩,⟨Ey exB,by first|exact eK|exact NV _|exact gu _⟩,⟨Ez exB,by first|exact eK|exact NV _|exact gu _⟩,sv _,sv _,sv _,sv _,sv _,sv _] (by kernel_rfl) (by kernel_rfl)
 try go_frame
 refine wkU (fun u hR K hK=> ?_) (fun o0=> ?_)
 ·clear hR
  go_simp
  refine((HPr _).out).mono ?_
  rintro e w9 ⟨g,sa,sb,rfl,hb9,k0,k1,k2,k3⟩
  exact hK _ _ hb9 ⟨g,sa,sb,rfl,k0,k1,k2,k3⟩
 try go_frame
 refine wkU (fun u hR K hK=> ?_) (fun o1=> ?_)
 ·have h0:Ex o0 u.val:=hr hR 0
  clear hR
  obtain⟨g,sa,sb,rfl,k0,k1,k2,k3⟩:=h0
  go_simp
  exact hK _ _ (brf) ⟨g,0,sa,rfl,k0,k2⟩
 try go_frame
 refine wkU (fun u hR K hK=> ?_) (fun o2=> ?_)
 ·have h1:Ey exA o1 u.val:=hr hR 1
  clear hR
  obtain⟨g,i,sa,rfl,k0,k2⟩:=h1
  have zl:=qaC u.val _ k0
  go_simp
  exact hK _ _ (brf) ⟨sa,rfl,k2⟩
 try go_frame
 refine wkU (fun u hR K hK=> ?_) (fun o3=> ?_)
 ·clear hR
  go_simp
  refine((HPr _).out).mono ?_
  rintro e w9 ⟨g,sa,sb,rfl,hb9,k0,k1,k2,k3⟩
  exact hK _ _ hb9 ⟨g,sa,sb,rfl,k0,k1,k2,k3⟩
 try go_frame
 refine wkU (fun u hR K hK=> ?_) (fun o4=> ?_)
 ·have h3:Ex o3 u.val:=hr hR 3
  clear hR
  obtain⟨g,sa,sb,rfl,k0,k1,k2,k3⟩:=h3
  go_simp
  exact hK _ _ (brf) ⟨g,1,sb,rfl,k1,k3⟩
 try go_frame
 refine wkU (fun u hR K hK=> ?_) (fun o5=> ?_)
 ·have h4:Ey exB o4 u.val:=hr hR 4
  clear hR
  obtain⟨g,i,sa,rfl,k0,k2⟩:=h4
  have zl:=qaC u.val _ k0
  go_simp
  exact hK _ _ (brf) ⟨sa,rfl,k2⟩
 ((try go_frame);refine wkQ ?_)
 try go_frame
 refine MM rfl rfl (by simp) rfl rfl ?_
 apply ex3
 ·intro u hR K hK
  have h2:Ez exA o2 u.val:=hr hR 2
  have h5:Ez exB o5 u.val:=hr hR 5
  clear hR
  obtain⟨sa,rfl,k1⟩:=h2
  obtain⟨sb,rfl,k2⟩:=h5
  go_simp
  refine((HB1 _ _ _ k1 k2).out).mono ?_
  rintro e w9 ⟨rfl,hb9⟩
  exact hK _ hb9
 rfl
 iterate 3 ((try go_frame);refine wkQ ?_)
 try go_frame
 refine wkz rfl rfl rfl rfl ?_
 apply Exists.intro
 apply And.intro
 ·intro w9
  go_simp
  try rfl
 refine⟨rfl, ?_⟩
 try go_frame
 refine aI (fun u hR=> ?_)
 have hb1:=u.below
 clear hR
 generalize u.val=w1 at*
 clear u
 simp only[oas]
 go_wp2
 refine NoPanic.normal ?_
 go_wp2
 clear HB1
 apply aj [11] [0,1,2,3,4,5,6,7,8,9,10,11] 12 [] [⟨Ex,by first|exact eK|exact NV _|exact gu _⟩,⟨Ey exA,by first|exact eK|exact NV _|exact gu _⟩,⟨Ez exA,by first|exact eK|exact NV _|exact gu _⟩,⟨Ex,by first|exact eK|exact NV _|exact gu _⟩,⟨Ey exB,by first|exact eK|exact NV _|exact gu _⟩,⟨Ez exB,by first|exact eK|exact NV _|exact gu _⟩,sv _,sv _,sv _,sv _,sv _,sv _] (by kernel_rfl) (by kernel_rfl)
 try go_frame
 refine wkU (fun u hR K hK=> ?_) (fun o0=> ?_)
 ·clear hR
  go_simp
  refine((HPr _).out).mono ?_
  rintro e w9 ⟨g,sa,sb,rfl,hb9,k0,k1,k2,k3⟩
  exact hK _ _ hb9 ⟨g,sa,sb,rfl,k0,k1,k2,k3⟩
 try go_frame
 refine wkU (fun u hR K hK=> ?_) (fun o1=> ?_)
 ·have h0:Ex o0 u.val:=hr hR 0
  clear hR
  obtain⟨g,sa,sb,rfl,k0,k1,k2,k3⟩:=h0
  go_simp
  exact hK _ _ (brf) ⟨g,0,sa,rfl,k0,k2⟩
 try go_frame
 refine wkU (fun u hR K hK=> ?_) (fun o2=> ?_)
 ·have h1:Ey exA o1 u.val:=hr hR 1
  clear hR
  obtain⟨g,i,sa,rfl,k0,k2⟩:=h1
  have zl:=qaC u.val _ k0
  go_simp
  exact hK _ _ (brf) ⟨sa,rfl,k2⟩
 try go_frame
 refine wkU (fun u hR K hK=> ?_) (fun o3=> ?_)
 ·clear hR
  go_simp
  refine((HPr _).out).mono ?_
  rintro e w9 ⟨g,sa,sb,rfl,hb9,k0,k1,k2,k3⟩
  exact hK _ _ hb9 ⟨g,sa,sb,rfl,k0,k1,k2,k3⟩
 try go_frame
 refine wkU (fun u hR K hK=> ?_) (fun o4=> ?_)
 ·have h3:Ex o3 u.val:=hr hR 3
  clear hR
  obtain⟨g,sa,sb,rfl,k0,k1,k2,k3⟩:=h3
  go_simp
  exact hK _ _ (brf) ⟨g,1,sb,rfl,k1,k3⟩
 try go_frame
 refine wkU (fun u hR K hK=> ?_) (fun o5=> ?_)
 ·have h4:Ey exB o4 u.val:=hr hR 4
  clear hR
  obtain⟨g,i,sa,rfl,k0,k2⟩:=h4
  have zl:=qaC u.val _ k0
  go_simp
  exact hK _ _ (brf) ⟨sa,rfl,k2⟩
 ((try go_frame);refine wkQ ?_)
 try go_frame
 refine MM rfl rfl (by simp) rfl rfl ?_
 apply ex3
 ·intro u hR K hK
  have h2:Ez exA o2 u.val:=hr hR 2
  have h5:Ez exB o5 u.val:=hr hR 5
  clear hR
  obtain⟨sa,rfl,k1⟩:=h2
  obtain⟨sb,rfl,k2⟩:=h5
  go_simp
  refine((HB2 _ _ _ k1 k2).out).mono ?_
  rintro e w9 ⟨rfl,hb9⟩
  exact hK _ hb9
 rfl
 iterate 3 ((try go_frame);refine wkQ ?_)
 try go_frame
 refine wkz rfl rfl rfl rfl ?_
 apply Exists.intro
 apply And.intro
 ·intro w9
  go_simp
  try rfl
 refine⟨rfl, ?_⟩
 try go_frame
 refine aI (fun u hR=> ?_)
 have hb2:=fB hb1 u.below
 clear hR
 generalize u.val=w2 at*
 clear u hb1
 simp only[oas]
 go_wp2
 refine NoPanic.normal ?_
 clear HB2
 go_wp2_with fail
 refine((HPr _).out).mono ?_
 rintro e w3 ⟨g,sa,sb,rfl,hb3,k0,k1,k2,k3⟩
 have hW3:=fB hb2 hb3
 have HSs:=YJ (KF k0 k1 k2 k3)
 clear k0 k1 k2 k3 HPr
 have hbi:Below w3.heap.size w3 (w3.alloc (.cells #[.int .i64 0, .int .i64 1] 3)):=bel
 have HFx:=YJ (HF (w3.alloc (.cells #[.int .i64 0, .int .i64 1] 3)) (fB hW3 hbi) (.slice (some ⟨g,0,none⟩) 2 2) (.slice (some ⟨w3.heap.size,0,none⟩) 2 2) (SolsV.below HSs.out hbi) (Fv (T:=3) [0,1] rfl)).out
 clear HF
 go_wp2_with fail
 refine HFx.out.mono ?_
 rintro e w4 ⟨gv,ov,rfl,hb4,hg,ho⟩
 have HG:=YJ hg
 have HO:=YJ ho
 have hW4:=fB (fB hW3 hbi) hb4
 clear hg ho HSs HFx
 have hbs:Below w4.heap.size w4 ((w4.alloc (.cells #[gv,ov, .int .i64 (-1), .int .i64 (-1), .int .i64 (-1)] 60)).alloc (.cells #[gv,ov, .int .i64 (-1), .int .i64 (-1), .int .i64 (-1)] 60)):=bel
 have HPx:=YJ (HPt _ (fB hW4 hbs) (.slice (some ⟨w4.heap.size+1,0,none⟩) 1 1) (IM (by exact ai (by simp)) (HG.out.below hbs) (HO.out.below hbs))).out
 clear HPt
 obtain⟨ga,gn,gc,rfl, -⟩:=id HG.out
 obtain⟨oa,on,oc,rfl, -⟩:=id HO.out
 go_wp2_with fail
 refine HPx.out.mono ?_
 rintro e w5 ⟨rfl,hb5⟩
 have hW5:=fB (fB hW4 hbs) hb5
 clear HPx HG HO
 go_wp2
 go_ret
 exact⟨ay (by first|rfl|simp),hW5⟩
end
section
open Go.RowKit
theorem zsQ {P:Program} {ops:Array Oper} {S:World→Prop} {R:Nat→Value→World→Prop} {i:Nat} {l:List Nat} {a:Act} {o:Oper} {v:Value} {d:Nat} (h3:pZ P ops S R l (a.put (some d) v)) (ho:ops[i]? =some o:=by rfl) (hd:o.dst=some d:=by rfl) (hg:o.guard=none:=by rfl) (h1:∀w,S w→(execOp a.eval o).run P w= .ok (.value v) w) (h2:R i=IsV v:=by rfl):pZ P ops S R (i::l) a:=du ho hg ⟨v,h1,h2,hd▸h3⟩
end
section
open Go.RowKit Go.Shelf
set_option maxRecDepth 100000
attribute [local go_sem] Ext.cell Ext.frozen
def Rc (W:World) (e:Ending) (w':World):Prop:=∃r,e= .returned (.bool r)∧Below W.heap.size W w'
theorem Qq {w:World} {g:Nat} {x0 x1 x2:Value} {t:TypeId} (h:w.heap[g]? =some (.cells #[x0,x1,x2] t (0,0))) (i:Nat) (hi:i<3):w.cell? ⟨g,i,none⟩=some (if i=0 then x0 else if i=1 then x1 else x2):=by
 rw[ag h]
 match i,hi with
 |0,_=>rfl
 |1,_=>rfl
 |2,_=>rfl
theorem Qd (a b:Q4) (W:World):Calls Tryz.prog 138 #[v4 a,v4 b] W (Rc W):=by
 obtain⟨p0,p1,p2,pd⟩:=a
 obtain⟨q0,q1,q2,qd⟩:=b
 obtain⟨V,HV⟩:∃V,Hid ((W.alloc (.cells #[.int .i64 p0, .int .i64 p1, .int .i64 p2, .int .i64 pd] 192)).alloc (.cells #[.int .i64 q0, .int .i64 q1, .int .i64 q2, .int .i64 qd] 192)=V):=⟨_,YJ rfl⟩
 have hV:Below W.heap.size W V:=by rw[←HV.out];exact bel
 have BP:Hid (V.heap[W.heap.size]? =some (.cells #[.int .i64 p0, .int .i64 p1, .int .i64 p2, .int .i64 pd] 192 (0,0))):=YJ (by rw[←HV.out];exact(aB (by simp)).trans (ai rfl))
 have BQ:Hid (V.heap[W.heap.size+1]? =some (.cells #[.int .i64 q0, .int .i64 q1, .int .i64 q2, .int .i64 qd] 192 (0,0))):=YJ (by rw[←HV.out];exact ai (by simp))
 go_enter Tryz.func138,Tryz.ntmps138
 go_wp2
 rw[HV.out]
 clear HV
 have xp0:=(ag BP.out 0).trans rfl
 have xp1:=(ag BP.out 1).trans rfl
 have xp2:=(ag BP.out 2).trans rfl
 have xp3:=(ag BP.out 3).trans rfl
 simp only[List.getElem?_toArray,List.getElem?_cons_zero,List.getElem?_cons_succ]at xp0 xp1 xp2 xp3
 have xpz:=ah BP.out
 have xpf:=aC BP.out
 have xq0:=(ag BQ.out 0).trans rfl
 have xq1:=(ag BQ.out 1).trans rfl
 have xq2:=(ag BQ.out 2).trans rfl
 have xq3:=(ag BQ.out 3).trans rfl
 simp only[List.getElem?_toArray,List.getElem?_cons_zero,List.getElem?_cons_succ]at xq0 xq1 xq2 xq3
 have xqz:=ah BQ.out
 have xqf:=aC BQ.out
 apply bW [7,8,9,10,11,12,13] [0,1,2,3,4,5,6,7,8,9,10,11,12,13,14,15] 16 [] 17 [] [sv _,sv _,sv _,sv _,sv _,sv _,sv _,sv _,sv _,sv _,sv _,sv _,sv _,sv _,⟨yd V.heap.size 69 #[.int .i64 0, .int .i64 0, .int .i64 0],by first|exact stab_po _ _|exact stab_fo _ _|exact stab_co _ _|exact stab_ko _ _|exact stab_kgo _ _|exact ar _ _ _⟩,⟨yd V.heap.size 69 #[.int .i64 0, .int .i64 0, .int .i64 0],by first|exact stab_po _ _|exact stab_fo _ _|exact stab_co _ _|exact stab_ko _ _|exact stab_kgo _ _|exact ar _ _ _⟩] (fun w'=>Below V.heap.size V w') (by kernel_rfl) (by kernel_rfl) (by kernel_rfl) (fun u=>u.below)
 ·(try go_frame)
  iterate 7 ((try go_frame);refine zsQ ?_ (h1:=fun w9 h9=>by(have y0:=ab h9 xq0;have y1:=ab h9 xq1;have y2:=ab h9 xq2;have y3:=ab h9 xq3;have yz:=qaG xqz h9.size;go_simp;first|rfl|(simp only[h9];rfl))))
  exact gR
 iterate 14 ((try go_frame);refine wkQ ?_)
 try go_frame
 refine wkU (fun u hR K hK=> ?_) (fun o14=> ?_)
 ·clear hR
  have zz:=u.below.size
  go_simp
  exact hK _ _ bel ⟨_,rfl,zz,ai rfl⟩
 try go_frame
 refine wkU (fun u hR K hK=> ?_) (fun o15=> ?_)
 ·clear hR
  have zz:=u.below.size
  go_simp
  exact hK _ _ bel ⟨_,rfl,zz,ai rfl⟩
 try go_frame
 refine aI (fun u hR=> ?_)
 obtain⟨ga,rfl,hga,hA⟩:yd V.heap.size 69 #[.int .i64 0, .int .i64 0, .int .i64 0] o14 u.val:=hR 14 (by simp)
 obtain⟨gb,rfl,hgb,hB⟩:yd V.heap.size 69 #[.int .i64 0, .int .i64 0, .int .i64 0] o15 u.val:=hR 15 (by simp)
 have HA:=YJ hA
 have HB:=YJ hB
 have hVu:=u.below
 clear hR hA hB xp0 xp1 xp2 xp3 xpz xpf xq0 xq1 xq2 xq3 xqz xqf
 generalize u.val=X at*
 clear u
 obtain⟨a0,a1,a2,af,az⟩:=NO HA.out
 obtain⟨Y,HY⟩:∃Y,Hid (jd (jd X ga (.int .i64 p0) (.int .i64 p1) (.int .i64 p2)) gb (.int .i64 q0) (.int .i64 q1) (.int .i64 q2)=Y):=⟨_,YJ rfl⟩
 have hVY:Below V.heap.size V Y:=by rw[←HY.out];exact dt (dt hVu hga _ _ _) hgb _ _ _
 have HAY:Hid (∃u0 u1 u2:Int,Y.heap[ga]? =some (.cells #[.int .i64 u0, .int .i64 u1, .int .i64 u2] 69 (0,0))):=YJ (by
  rw[←HY.out]
  by_cases h:ga=gb
  ·subst h
   exact⟨q0,q1,q2,eh (eh HA.out _ _ _) _ _ _⟩
  ·exact⟨p0,p1,p2,(cE h _ _ _).trans (eh HA.out _ _ _)⟩)
 have HBY:Hid (Y.heap[gb]? =some (.cells #[.int .i64 q0, .int .i64 q1, .int .i64 q2] 69 (0,0))):=YJ (by
  rw[←HY.out]
  by_cases h:ga=gb
  ·subst h
   exact eh (eh HA.out _ _ _) _ _ _
  ·exact eh ((cE (fun e=>h e.symm) _ _ _).trans HB.out) _ _ _)
 have eY:(((((X.setCell ⟨ga,0,none⟩ (.int .i64 p0)).setCell ⟨ga,1,none⟩ (.int .i64 p1)).setCell ⟨ga,2,none⟩ (.int .i64 p2)).setCell ⟨gb,0,none⟩ (.int .i64 q0)).setCell ⟨gb,1,none⟩ (.int .i64 q1)).setCell ⟨gb,2,none⟩ (.int .i64 q2)=Y:=HY.out
 have HP:=YJ ((hVY.block _ (ah BP.out)).trans BP.out)
 have HQ:=YJ ((hVY.block _ (ah BQ.out)).trans BQ.out)
 have hW:=fB hV hVY
 by_cases hab:ga=gb
 ·subst hab
  simp only[oas]
  go_wp2
  refine⟨dt hVu hga _ _ _, ?_⟩
  simp only[oas]
  go_wp2
  refine NoPanic.normal ?_
  try rw[eY]
  clear eY HY HA HB a0 a1 a2 af az  BP BQ hVu
  obtain⟨u0,u1,u2,hAY⟩:=HAY.out
  have HAY:=YJ hAY
  clear hAY
  go_wp2
  go_loopw [7] (fun i wr=>∃k:Nat,k≤3∧i= .int .i64 k∧Below Y.heap.size Y wr) (fun i _=>3-(intOf i).toNat)
  case atStart=>exact⟨0,by omega,rfl,brf⟩
  case round=>
   obtain⟨k,hk,rfl,hb⟩:=hrel
   have hWr:=fB hW hb
   by_cases hlt:k<3
   ·have HPr:=YJ ((hb.block _ (ah HP.out)).trans HP.out)
    have HQr:=YJ ((hb.block _ (ah HQ.out)).trans HQ.out)
    have hAr:=(hb.block _ (ah HAY.out)).trans HAY.out
    have hBr:=(hb.block _ (ah HBY.out)).trans HBY.out
    obtain⟨m,hm⟩:∃m:Int,wr.cell? ⟨ga,k,none⟩=some (.int .i64 m):=by
     rw[Qq hAr k hlt]
     split
     ·exact⟨_,rfl⟩
     ·split<;>exact⟨_,rfl⟩
    obtain⟨n,hn⟩:∃n:Int,wr.cell? ⟨ga,k,none⟩=some (.int .i64 n):=by
     rw[Qq hBr k hlt]
     split
     ·exact⟨_,rfl⟩
     ·split<;>exact⟨_,rfl⟩
    have az:=ah hAr
    have bz:=ah hBr
    have dP:=(ag HPr.out 3).trans rfl
    have dQ:=(ag HQr.out 3).trans rfl
    have pz:=ah HPr.out
    have qz:=ah HQr.out
    simp only[List.getElem?_toArray,List.getElem?_cons_zero,List.getElem?_cons_succ]at dP dQ
    have g1:(k:Int)<3:=by omega
    have g2:(0:Int)≤(k:Int):=by omega
    clear hAr hBr HAY HBY HP HQ HPr HQr
    obtain⟨x,Hx⟩:∃x,Hid (IntKind.i64.wrap (m*qd)=x):=⟨_,YJ rfl⟩
    obtain⟨y,Hy⟩:∃y,Hid (IntKind.i64.wrap (n*pd)=y):=⟨_,YJ rfl⟩
    have ex:=Hx.out
    have ey:=Hy.out
    go_wp2
    apply aj [12] [0,1,2,3,4,5,6,7,8,9,10,11,12] 13 [] [sv _,sv _,sv _,sv _,sv _,sv _,sv _,sv _,sv _,sv _,sv _,sv _,sv _] (by kernel_rfl) (by kernel_rfl)
    iterate 12 ((try go_frame);refine wkQ ?_)
    try go_frame
    refine wkz rfl rfl rfl rfl ?_
    apply Exists.intro
    apply And.intro
    ·intro w9
     go_simp
     try rfl
    refine⟨rfl, ?_⟩
    try go_frame
    refine aI (fun u hR=> ?_)
    have hbu:=fB hWr u.below
    have hbu':=fB hb u.below
    clear hR
    generalize u.val=Z at*
    clear u
    simp only[oas]
    go_wp2
    refine NoPanic.normal ?_
    go_wp2
    all_goals first
     |exact⟨⟨k+1,by omega,by go_num,hbu'⟩,by first|(simp[intOf];done)|(simp[intOf];omega)⟩
     |(go_ret;exact⟨_,rfl,hbu⟩)
   ·obtain rfl:k=3:=by omega
    clear HAY HBY HP HQ
    go_wp2
    go_ret
    exact⟨_,rfl,hWr⟩
 ·obtain⟨b0',b1',b2',bf,bz⟩:=NO HB.out
  have nba:gb≠ga:=fun e=>hab e.symm
  simp only[oas]
  go_wp2
  refine⟨dt hVu hga _ _ _, ?_⟩
  simp only[oas]
  go_wp2
  refine NoPanic.normal ?_
  try rw[eY]
  clear eY HY HA HB a0 a1 a2 af az b0' b1' b2' bf bz nba BP BQ hVu
  obtain⟨u0,u1,u2,hAY⟩:=HAY.out
  have HAY:=YJ hAY
  clear hAY
  go_wp2
  go_loopw [7] (fun i wr=>∃k:Nat,k≤3∧i= .int .i64 k∧Below Y.heap.size Y wr) (fun i _=>3-(intOf i).toNat)
  case atStart=>exact⟨0,by omega,rfl,brf⟩
  case round=>
   obtain⟨k,hk,rfl,hb⟩:=hrel
   have hWr:=fB hW hb
   by_cases hlt:k<3
   ·have HPr:=YJ ((hb.block _ (ah HP.out)).trans HP.out)
    have HQr:=YJ ((hb.block _ (ah HQ.out)).trans HQ.out)
    have hAr:=(hb.block _ (ah HAY.out)).trans HAY.out
    have hBr:=(hb.block _ (ah HBY.out)).trans HBY.out
    obtain⟨m,hm⟩:∃m:Int,wr.cell? ⟨ga,k,none⟩=some (.int .i64 m):=by
     rw[Qq hAr k hlt]
     split
     ·exact⟨_,rfl⟩
     ·split<;>exact⟨_,rfl⟩
    obtain⟨n,hn⟩:∃n:Int,wr.cell? ⟨gb,k,none⟩=some (.int .i64 n):=by
     rw[Qq hBr k hlt]
     split
     ·exact⟨_,rfl⟩
     ·split<;>exact⟨_,rfl⟩
    have az:=ah hAr
    have bz:=ah hBr
    have dP:=(ag HPr.out 3).trans rfl
    have dQ:=(ag HQr.out 3).trans rfl
    have pz:=ah HPr.out
    have qz:=ah HQr.out
    simp only[List.getElem?_toArray,List.getElem?_cons_zero,List.getElem?_cons_succ]at dP dQ
    have g1:(k:Int)<3:=by omega
    have g2:(0:Int)≤(k:Int):=by omega
    clear hAr hBr HAY HBY HP HQ HPr HQr
    obtain⟨x,Hx⟩:∃x,Hid (IntKind.i64.wrap (m*qd)=x):=⟨_,YJ rfl⟩
    obtain⟨y,Hy⟩:∃y,Hid (IntKind.i64.wrap (n*pd)=y):=⟨_,YJ rfl⟩
    have ex:=Hx.out
    have ey:=Hy.out
    go_wp2
    apply aj [12] [0,1,2,3,4,5,6,7,8,9,10,11,12] 13 [] [sv _,sv _,sv _,sv _,sv _,sv _,sv _,sv _,sv _,sv _,sv _,sv _,sv _] (by kernel_rfl) (by kernel_rfl)
    iterate 12 ((try go_frame);refine wkQ ?_)
    try go_frame
    refine wkz rfl rfl rfl rfl ?_
    apply Exists.intro
    apply And.intro
    ·intro w9
     go_simp
     try rfl
    refine⟨rfl, ?_⟩
    try go_frame
    refine aI (fun u hR=> ?_)
    have hbu:=fB hWr u.below
    have hbu':=fB hb u.below
    clear hR
    generalize u.val=Z at*
    clear u
    simp only[oas]
    go_wp2
    refine NoPanic.normal ?_
    go_wp2
    all_goals first
     |exact⟨⟨k+1,by omega,by go_num,hbu'⟩,by first|(simp[intOf];done)|(simp[intOf];omega)⟩
     |(go_ret;exact⟨_,rfl,hbu⟩)
   ·obtain rfl:k=3:=by omega
    clear HAY HBY HP HQ
    go_wp2
    go_ret
    exact⟨_,rfl,hWr⟩
end
section
open Go.RowKit Go.Shelf
theorem tG {w:World} {base:Nat} {T:TypeId} {g n c:Nat} {cs:List Q4} (h:w.ownsRow base T 4 (.slice (some ⟨g,0,none⟩) n c) cs.length (cs.flatMap aH)):Q4At w g 0 cs:=by
 obtain⟨a,n',c',e,hn,_,hx⟩:=dV h
 intro i hi
 obtain⟨b,off,rfl,h4⟩:=hx (by omega)
 cases e
 exact h4 i hi
theorem mB {w:World} {g:Nat} {A:List Q4} (h:Q4At w g 0 A) (k:Nat):∀j u,((A.take k).flatMap aH)[j]? =some u→w.cell? ((⟨g,0,none⟩:Addr).add j)=some u:=by
 intro j u hu
 rw[jY]
 have hlen:∀l:List Q4,(l.flatMap aH).length=l.length*4:=fun l=>by
  induction l with
  |nil=>rfl
  |cons x l ih=>rw[List.flatMap_cons,qaE,ih,List.length_cons];simp[aH];omega
 have hj:j<((A.take k).flatMap aH).length:=(List.getElem?_eq_some_iff.1 hu).1
 rw[hlen]at hj
 obtain⟨i,r,hr,rfl⟩:∃i r,r<4∧j=i*4+r:=⟨j / 4,j % 4,by omega,by omega⟩
 have hi:i<(A.take k).length:=by omega
 rw[eQ aH 4 (fun _=>rfl) _ i hi r hr]at hu
 have hi2:i<A.length:=by simp at hi;omega
 obtain⟨c0,c1,c2,c3⟩:=h i hi2
 rw[List.getElem_take]at hu
 simp only[Nat.zero_add]at c0 c1 c2 c3
 rcases(by omega:r=0∨r=1∨r=2∨r=3)with rfl|rfl|rfl|rfl
 ·rw[←hu];exact c0
 ·rw[←hu];exact c1
 ·rw[←hu];exact c2
 ·rw[←hu];exact c3
theorem vH {w:World} {g:Nat} {A:List Q4} (h:Q4At w g 0 A) (k:Nat):∀j u,((A.drop k).flatMap aH)[j]? =some u→w.cell? ⟨g,k*4+j,none⟩=some u:=by
 intro j u hu
 have hlen:∀l:List Q4,(l.flatMap aH).length=l.length*4:=fun l=>by
  induction l with
  |nil=>rfl
  |cons x l ih=>rw[List.flatMap_cons,qaE,ih,List.length_cons];simp[aH];omega
 have hj:j<((A.drop k).flatMap aH).length:=(List.getElem?_eq_some_iff.1 hu).1
 rw[hlen]at hj
 obtain⟨i,r,hr,rfl⟩:∃i r,r<4∧j=i*4+r:=⟨j / 4,j % 4,by omega,by omega⟩
 have hi:i<(A.drop k).length:=by omega
 rw[eQ aH 4 (fun _=>rfl) _ i hi r hr]at hu
 have hi2:k+i<A.length:=by simp at hi;omega
 obtain⟨c0,c1,c2,c3⟩:=h (k+i) hi2
 rw[List.getElem_drop]at hu
 simp only[Nat.zero_add,Nat.add_mul]at c0 c1 c2 c3
 rcases(by omega:r=0∨r=1∨r=2∨r=3)with rfl|rfl|rfl|rfl
 ·rw[←hu];exact c0
 ·rw[←hu];exact c1
 ·rw[←hu];exact c2
 ·rw[←hu];exact c3
theorem gD {w:World} {g:Nat} {A:List Q4} (h:Q4At w g 0 A) (k:Nat):∀j u,((A.drop k).flatMap aH)[j]? =some u→w.cell? ((⟨g,k*4,none⟩:Addr).add j)=some u:=fun j u hu=>by
 rw[vp]
 exact vH h k j u hu
end
section
open Go.RowKit Go.Shelf
set_option maxRecDepth 100000
attribute [local go_sem] Ext.cell Ext.frozen
def Ou (B:Nat):Value→World→Prop:=fun v w=>∃g,v= .slice (some ⟨g,0,none⟩) 0 0∧B≤g∧w.heap[g]? =some (.cells #[] 192 (0,0))
theorem NQ (B:Nat):dR (Ou B):=fun _ _ _ hb ⟨g,h1,h2,h3⟩=>⟨g,h1,h2,(hb.block g (ah h3)).trans h3⟩
def PF (p:Q4):Value→World→Prop:=fun v w=>∃g,v= .slice (some ⟨g,0,none⟩) 1 1∧w.heap[g]? =some (.cells (aH p).toArray 192 (0,0))
theorem NR (p:Q4):dR (PF p):=fun _ _ _ hb ⟨g,h1,h2⟩=>⟨g,h1,(hb.block g (ah h2)).trans h2⟩
def OC (B:Nat) (L:List Q4):Value→World→Prop:=fun v w=>w.ownsRow B 192 4 v L.length (L.flatMap aH)
theorem NS (B:Nat) (L:List Q4):dR (OC B L):=fun _ _ _ hb h=>au h hb
def QT:Value→World→Prop:=fun v _=>∃b,v= .bool b
theorem NT:dR QT:=fun _ _ _ _ h=>h
theorem Ov {w:World} {g:Nat} {p:Q4} (h:w.heap[g]? =some (.cells (aH p).toArray 192 (0,0))):∀j u,([p].flatMap aH)[j]? =some u→w.cell? ((⟨g,0,none⟩:Addr).add j)=some u:=fun j u hu=>by
 rw[jY,ag h]
 simpa using hu
theorem NP {ops:Array Oper} {rest:List Oper} {o:Oper} {a:Act} {Q:Exit→Act→World→Prop} {w W:World} {B n m c:Nat} {L ds:List Q4} {v:Value} {ad:Addr} (hown:w.ownsRow B 192 4 v n (L.flatMap aH)) (hb:Below B W w) (hB:B≤w.heap.size) (hm:m=ds.length)
  (hsrc:∀j u,(ds.flatMap aH)[j]? =some u→w.cell? (ad.add j)=some u) (s x:Operand) (hgd:o.guard=none) (ho:o.op= .call {callee:= .builtin .append,args:=#[s,x],argTypes:=#[101,101]}) (hs:a.eval s=v) (hx:a.eval x= .slice (some ad) m c) (hn:n+m≤10000000)
  (h:∀v' w',w'.ownsRow B 192 4 v' (L++ds).length ((L++ds).flatMap aH)→Below B W w'→wpList Tryz.prog ops Q rest (a.put o.dst v') w'):wpList Tryz.prog ops Q (o::rest) a w:=by
 obtain⟨i0,hi0,hz0,hz1,hz2⟩:=info_parts kN
 have hl:=hown.1
 rw[bh]at hl
 obtain rfl:n=L.length:=by omega
 subst hm
 refine wpList_append_own w hgd s x 101 ho B 192 i0 (v4 (0,0,0,0)) 4 32 kO hi0 hz0 hz1 hz2 rfl (by decide) v _ (L.flatMap aH) hs hown ad ds.length c (ds.flatMap aH) hx (bh ds) hsrc (fun u hu=> ?_) (by unfold maxLen;omega) (by omega) hB fun v' w' h1 h2 _=>h v' w' ?_ (hb.grown h2 hB (fun z hz=>(hown.lt z hz).1))
 ·obtain⟨x,_,h⟩:=List.mem_flatMap.1 hu
  simp[aH]at h
  rcases h with rfl|rfl|rfl|rfl<;>rfl
 ·rw[qaE,List.flatMap_append]
  exact h1
def Re (n:Nat) (W:World) (e:Ending) (w':World):Prop:=∃v,∃L:List Q4,e= .returned v∧Below W.heap.size W w'∧L.length=n∧w'.ownsRow W.heap.size 192 4 v L.length (L.flatMap aH)
theorem Qe (cs:List Q4) (cv:Value) (W:World) (hl:cs.length≤1000000) (h:Q4s W cv cs):Calls Tryz.prog 100 #[cv] W (Re cs.length W):=by
 obtain⟨i0,hi0,hz0,hz1,hz2⟩:=info_parts kN
 have Hi0:=YJ (And.intro hi0 (And.intro hz0 (And.intro hz1 hz2)))
 clear hi0 hz0 hz1 hz2
 obtain⟨ca,n,cc,rfl,hn,_,hx⟩:=h
 have HX:=YJ hx
 have HN:=YJ hn
 have hl':n≤1000000:=by omega
 rw[hn]
 have HBf:=fun a b W'=>YJ (Qd a b W')
 clear hn hx hl
 go_enter Tryz.func100,Tryz.ntmps100
 go_wp2
 go_loopw [3,4] (fun v i wr=>∃(k:Nat) (L:List Q4),k≤n∧i= .int .i64 k∧Below W.heap.size W wr∧Hid (L.length=k∧(k=0→v= .slice none 0 0)∧wr.ownsRow W.heap.size 192 4 v L.length (L.flatMap aH))) (fun _ i _=>n-(intOf i).toNat)
 case atStart=>exact⟨0,[],by omega,rfl,brf,YJ ⟨rfl,fun _=>rfl,World.ownsRow_nil _ _ _ _⟩⟩
 case round=>
  rename World=>wo
  obtain⟨k,L,hk,rfl,hb,HL⟩:=hrel
  by_cases hlt:k<n
  ·have hil:k<cs.length:=by have:=HN.out;omega
   obtain⟨b,off,rfl,hi⟩:=HX.out (by omega)
   obtain⟨d0,d1,d2,d3⟩:=(hi.below hb) k hil
   generalize cs[k]=p at*
   obtain⟨p0,p1,p2,p3⟩:=p
   simp only at d0 d1 d2 d3
   have zlo:=qaC wo _ d0
   simp only at zlo
   have g1:(k:Int)<(n:Int):=by omega
   have g2:(0:Int)≤(k:Int):=by omega
   clear hi HX
   by_cases hk0:k=0
   ·subst hk0
    obtain⟨hLk,hv, -⟩:=HL.out
    obtain rfl:=hv rfl
    obtain rfl:L=[]:=List.length_eq_zero_iff.1 hLk
    clear hv hLk HL
    have z0:((0:Nat):Int)=0:=rfl
    simp only[Nat.zero_mul,Nat.add_zero]at d0 d1 d2 d3
    rw[z0]at g1
    simp only[z0]
    go_wp2
    go_loopw [5] (fun a wi=>a= .int .i64 0∧Below wo.heap.size wo wi) (fun a _=>0)
    case atStart=>exact⟨rfl,brf⟩
    case round=>
     rename World=>wi
     obtain⟨rfl,hbi⟩:=hrel
     have c0:=ab hbi d0
     have c1:=ab hbi d1
     have c2:=ab hbi d2
     have c3:=ab hbi d3
     have zl:=qaG zlo hbi.size
     clear d0 d1 d2 d3 zlo
     go_wp2
     refine wqf fun u=> ?_
     have e0:=ab u.below c0
     have e1:=ab u.below c1
     have e2:=ab u.below c2
     have e3:=ab u.below c3
     have ez:=qaG zl u.below.size
     have hbj:=fB hbi u.below
     skip
     clear c0 c1 c2 c3 zl hbi
     generalize u.val=wj at*
     clear u
     go_wp2
     apply aj [11,12,13] [0,1,2,3,4,5,6,7,8,9,11,12,13] 10 [14,15] [⟨Ou wj.heap.size,by first|exact NQ _|exact NR _|exact NS _ _|exact NT⟩,sv _,sv _,sv _,⟨OC wj.heap.size ([]:List Q4),by first|exact NQ _|exact NR _|exact NS _ _|exact NT⟩,sv _,sv _,sv _,sv _,⟨PF (p0,p1,p2,p3),by first|exact NQ _|exact NR _|exact NS _ _|exact NT⟩,sv undef,sv _,sv _,sv _] (by kernel_rfl) (by kernel_rfl)
     try go_frame
     refine wkU (fun u hR K hK=> ?_) (fun o0=> ?_)
     ·clear hR
      have zz:=u.below.size
      go_simp
      exact hK _ _ bel ⟨_,rfl,zz,ai rfl⟩
     iterate 3 ((try go_frame);refine wkQ ?_)
     try go_frame
     refine wkU (fun u hR K hK=> ?_) (fun o4=> ?_)
     ·have h0:Ou wj.heap.size o0 u.val:=hr hR 0
      clear hR
      obtain⟨gm,rfl,hgm,hgl⟩:=h0
      exact cZ _ _ 101 rfl (append_nil 101 _ 192 i0 kO Hi0.out.1 ⟨gm,0,none⟩ _ _) (hK _ _ (brf) ⟨rfl, .inr ⟨gm,0,#[],rfl,hgm,hgl,qaA _,by unfold maxLen;omega,rfl,rfl⟩⟩)
     iterate 4 ((try go_frame);refine wkQ ?_)
     try go_frame
     refine wkU (fun u hR K hK=> ?_) (fun o9=> ?_)
     ·clear hR
      go_simp
      exact hK _ _ bel ⟨_,rfl,ai rfl⟩
     try go_frame
     refine wkz rfl rfl rfl rfl ?_
     apply Exists.intro
     apply And.intro
     ·intro w9
      go_simp
      try rfl
     refine⟨rfl, ?_⟩
     try go_frame
     refine wkz rfl rfl rfl rfl ?_
     apply Exists.intro
     apply And.intro
     ·intro w9
      go_simp
      try rfl
     refine⟨rfl, ?_⟩
     try go_frame
     refine wkz rfl rfl rfl rfl ?_
     apply Exists.intro
     apply And.intro
     ·intro w9
      go_simp
      try rfl
     refine⟨rfl, ?_⟩
     try go_frame
     refine aI (fun u hR=> ?_)
     have ho4:OC wj.heap.size ([]:List Q4) o4 u.val:=hR 4 (by simp)
     obtain⟨gp,rfl,hgp⟩:PF (p0,p1,p2,p3) o9 u.val:=hR 9 (by simp)
     have hbu:=u.below
     clear hR
     simp only[oas]
     refine NP ho4 hbu hbu.size rfl (Ov hgp) _ _ rfl rfl rfl rfl (by first|omega|(simp;done)|(simp;omega)) fun v5 w5 hown5 hb5=> ?_
     clear ho4 hgp hbu
     go_frame
     refine wpList_append_own_none rfl _ _ 101 rfl wj.heap.size 192 i0 4 kO Hi0.out.1 _ _ _ rfl hown5 rfl ?_
     go_frame
     iterate 1 (refine wpList_step (fun K hK=> ?_);go_simp;refine hK _ _ ?_;clear hK K)
     refine NoPanic.normal ?_
     go_wp2
     go_roundw
     case rel=>exact⟨0+1,_,by omega,by go_num,fB (fB hb hbj) hb5,YJ ⟨rfl,fun h=>by omega,AY hown5 (fB hb hbj).size⟩⟩
     case measure=>first|(simp[intOf];done)|(simp[intOf];omega)
   ·obtain⟨hLk, -,hown⟩:=HL.out
    rcases hown.2 with⟨_,h0⟩|⟨g,cap,cur,rfl,hgB,hh,hnc,hcm, -, -⟩
    ·omega
    rw[hLk]at hown hnc ⊢
    have HO:=YJ hown
    have HLk:=YJ hLk
    have hcap:cap≤maxLen:=hcm
    clear hown hLk HL hh hgB hcm
    have g3:(k:Int)≤(cap:Int):=by omega
    go_wp2
    go_loopw [5] (fun a wi=>∃T:Nat,T≤k∧a= .int .i64 T∧Below wo.heap.size wo wi) (fun a _=>(intOf a).toNat)
    case atStart=>exact⟨k,qaA _,rfl,brf⟩
    case round=>
     rename World=>wi
     obtain⟨T,hT,rfl,hbi⟩:=hrel
     have c0:=ab hbi d0
     have c1:=ab hbi d1
     have c2:=ab hbi d2
     have c3:=ab hbi d3
     have zl:=qaG zlo hbi.size
     have HOi:=YJ (au HO.out hbi)
     clear d0 d1 d2 d3 zlo HO
     by_cases hT0:T=0
     ·subst hT0
      have z0:((0:Nat):Int)=0:=rfl
      simp only[z0]
      go_wp2
      refine wqf fun u=> ?_
      have e0:=ab u.below c0
      have e1:=ab u.below c1
      have e2:=ab u.below c2
      have e3:=ab u.below c3
      have ez:=qaG zl u.below.size
      have hbj:=fB hbi u.below
      have HOj:=YJ (au HOi.out u.below)
      clear c0 c1 c2 c3 zl hbi
      generalize u.val=wj at*
      clear u
      clear HOi
      go_wp2
      apply aj [11,12,13] [0,1,2,3,4,5,6,7,8,9,11,12,13] 10 [14,15] [⟨Ou wj.heap.size,by first|exact NQ _|exact NR _|exact NS _ _|exact NT⟩,sv _,sv _,sv _,⟨OC wj.heap.size ([]:List Q4),by first|exact NQ _|exact NR _|exact NS _ _|exact NT⟩,sv _,sv _,sv _,sv _,⟨PF (p0,p1,p2,p3),by first|exact NQ _|exact NR _|exact NS _ _|exact NT⟩,sv undef,sv _,sv _,sv _] (by kernel_rfl) (by kernel_rfl)
      try go_frame
      refine wkU (fun u hR K hK=> ?_) (fun o0=> ?_)
      ·clear hR
       have zz:=u.below.size
       go_simp
       exact hK _ _ bel ⟨_,rfl,zz,ai rfl⟩
      iterate 3 ((try go_frame);refine wkQ ?_)
      try go_frame
      refine wkU (fun u hR K hK=> ?_) (fun o4=> ?_)
      ·have h0:Ou wj.heap.size o0 u.val:=hr hR 0
       clear hR
       obtain⟨gm,rfl,hgm,hgl⟩:=h0
       exact cZ _ _ 101 rfl (append_nil 101 _ 192 i0 kO Hi0.out.1 ⟨gm,0,none⟩ _ _) (hK _ _ (brf) ⟨rfl, .inr ⟨gm,0,#[],rfl,hgm,hgl,qaA _,by unfold maxLen;omega,rfl,rfl⟩⟩)
      iterate 4 ((try go_frame);refine wkQ ?_)
      try go_frame
      refine wkU (fun u hR K hK=> ?_) (fun o9=> ?_)
      ·clear hR
       go_simp
       exact hK _ _ bel ⟨_,rfl,ai rfl⟩
      try go_frame
      refine wkz rfl rfl rfl rfl ?_
      apply Exists.intro
      apply And.intro
      ·intro w9
       go_simp
       try rfl
      refine⟨rfl, ?_⟩
      try go_frame
      refine wkz rfl rfl rfl rfl ?_
      apply Exists.intro
      apply And.intro
      ·intro w9
       go_simp
       try rfl
      refine⟨rfl, ?_⟩
      try go_frame
      refine wkz rfl rfl rfl rfl ?_
      apply Exists.intro
      apply And.intro
      ·intro w9
       go_simp
       try rfl
      refine⟨rfl, ?_⟩
      try go_frame
      refine aI (fun u hR=> ?_)
      have ho4:OC wj.heap.size ([]:List Q4) o4 u.val:=hR 4 (by simp)
      obtain⟨gp,rfl,hgp⟩:PF (p0,p1,p2,p3) o9 u.val:=hR 9 (by simp)
      have hbu:=u.below
      clear hR
      simp only[oas]
      refine NP ho4 hbu hbu.size rfl (Ov hgp) _ _ rfl rfl rfl rfl (by first|omega|(simp;done)|(simp;omega)) fun v5 w5 hown5 hb5=> ?_
      clear ho4 hgp hbu
      go_frame
      refine NP (ds:=L.drop 0) hown5 hb5 hb5.size (by rw[List.length_drop,HLk.out];rfl) (gD (tG (by have:=au HOj.out hb5;rw[←HLk.out]at this;exact this)) 0) _ _ rfl rfl rfl rfl (by first|omega|(simp;done)|(simp;omega)) fun v6 w6 hown6 hb6=> ?_
      go_frame
      iterate 1 (refine wpList_step (fun K hK=> ?_);go_simp;refine hK _ _ ?_;clear hK K)
      refine NoPanic.normal ?_
      go_wp2
      go_roundw
      case rel=>exact⟨k+1,_,by omega,by go_num,fB (fB hb hbj) hb6,YJ ⟨(by simp[HLk.out]),fun h=>by omega,AY hown6 (fB hb hbj).size⟩⟩
      case measure=>first|(simp[intOf];done)|(simp[intOf];omega)
     ·obtain⟨f0,f1,f2,f3⟩:=(tG (by have:=HOi.out;rw[←HLk.out]at this;exact this)) (T-1) (by have:=HLk.out;omega)
      generalize L[T-1]'(by have:=HLk.out;omega)=q at*
      obtain⟨q0,q1,q2,q3⟩:=q
      have zg:=qaC wi _ f0
      simp only[Nat.zero_add]at f0 f1 f2 f3 zg
      have w1:IntKind.i64.wrap ((T:Int)-1)=((T-1:Nat):Int):=by rw[IntWalk.i64_in _ (by omega)];omega
      have g4:(0:Int)<(T:Int):=by omega
      have gT:0<T:=by omega
      have g5:(0:Int)≤((T-1:Nat):Int):=by omega
      have g6:((T-1:Nat):Int)<(k:Int):=by omega
      go_wp2
      apply aj [] [0,1,2,3,4,5,6,7,8,9,10,11,12] 13 [] [sv _,sv _,sv _,sv _,sv _,sv _,sv _,sv _,sv _,sv _,sv _,sv _,⟨QT,by first|exact NQ _|exact NR _|exact NS _ _|exact NT⟩] (by kernel_rfl) (by kernel_rfl)
      iterate 3 ((try go_frame);refine wkQ ?_)
      iterate 9 ((try go_frame);refine Ae rfl rfl (by simp) (by simp[Region.wanted,yielded]) ?_;apply ex3;(focus(intro u K hK;go_simp;exact hK _ brf));rfl)
      try go_frame
      refine Af rfl rfl (by simp) (by simp[Region.wanted,yielded]) (fun u hR K hK=> ?_) (fun o12=> ?_)
      ·clear hR
       go_simp
       refine((HBf (p0,p1,p2,p3) (q0,q1,q2,q3) _).out).mono ?_
       rintro e w9 ⟨r,rfl,hb9⟩
       exact hK _ _ hb9 ⟨r,rfl⟩
      try go_frame
      refine aI (fun u hR=> ?_)
      obtain⟨r,rfl⟩:QT o12 u.val:=hR 12 (by simp)
      clear hR f0 f1 f2 f3 zg
      have e0:=ab u.below c0
      have e1:=ab u.below c1
      have e2:=ab u.below c2
      have e3:=ab u.below c3
      have ez:=qaG zl u.below.size
      have hbj:=fB hbi u.below
      have HOj:=YJ (au HOi.out u.below)
      clear c0 c1 c2 c3 zl hbi
      generalize u.val=wj at*
      clear u
      clear HOi
      simp only[oas]
      go_wp2
      refine NoPanic.normal ?_
      cases r with
      |true=>
       go_wp2
       go_roundw
       case rel=>exact⟨T-1,by omega,by go_num,hbj⟩
       case measure=>first|(simp[intOf];done)|(simp[intOf];omega)
      |false=>
       clear g4 g5 g6 w1
       have g4:(T:Int)≤(cap:Int):=by omega
       have g5:(0:Int)≤(T:Int):=by omega
       have g6:(T:Int)≤(k:Int):=by omega
       by_cases hTc:cap=T
       ·obtain rfl:T=k:=by omega
        subst hTc
        obtain⟨T,rfl⟩:∃T,T=cap:=⟨_,rfl⟩
        have e7:¬T=0:=by omega
        go_wp2
        apply aj [11,12,13] [0,1,2,3,4,5,6,7,8,9,11,12,13] 10 [14,15] [⟨Ou wj.heap.size,by first|exact NQ _|exact NR _|exact NS _ _|exact NT⟩,sv _,sv _,sv _,⟨OC wj.heap.size (L.take T),by first|exact NQ _|exact NR _|exact NS _ _|exact NT⟩,sv _,sv _,sv _,sv _,⟨PF (p0,p1,p2,p3),by first|exact NQ _|exact NR _|exact NS _ _|exact NT⟩,sv undef,sv _,sv _,sv _] (by kernel_rfl) (by kernel_rfl)
        try go_frame
        refine wkU (fun u hR K hK=> ?_) (fun o0=> ?_)
        ·clear hR
         have zz:=u.below.size
         go_simp
         exact hK _ _ bel ⟨_,rfl,zz,ai rfl⟩
        iterate 3 ((try go_frame);refine wkQ ?_)
        try go_frame
        refine wkU (fun u hR K hK=> ?_) (fun o4=> ?_)
        ·have h0:Ou wj.heap.size o0 u.val:=hr hR 0
         clear hR
         obtain⟨gm,rfl,hgm,hgl⟩:=h0
         obtain⟨v9,w9,hrun,hown9,hb9⟩:=dM (P:=Tryz.prog) (w:=u.val) 101 101 192 i0 (v4 (0,0,0,0)) 4 32 kO Hi0.out.1 Hi0.out.2.1 Hi0.out.2.2.1 Hi0.out.2.2.2 rfl (by decide) ⟨gm,0,none⟩ 0 0 [] rfl (fun _ _ h=>by simp at h) ⟨g,0,none⟩ T T ((L.take T).flatMap aH) (by rw[bh,List.length_take,HLk.out];omega) (mB (tG (by have:=au HOj.out u.below;rw[←HLk.out]at this;exact this)) T) (by omega) (by unfold maxLen;omega) (by omega)
         exact cZ _ _ 101 rfl hrun (hK _ _ hb9 (show OC wj.heap.size (L.take T) v9 w9 from by have h9:=AY hown9 u.below.size;simp only[Nat.zero_add,List.nil_append]at h9;unfold OC;rw[show(L.take T).length=T by rw[List.length_take,HLk.out];omega];exact h9))
        iterate 4 ((try go_frame);refine wkQ ?_)
        try go_frame
        refine wkU (fun u hR K hK=> ?_) (fun o9=> ?_)
        ·clear hR
         go_simp
         exact hK _ _ bel ⟨_,rfl,ai rfl⟩
        try go_frame
        refine wkz rfl rfl rfl rfl ?_
        apply Exists.intro
        apply And.intro
        ·intro w9
         go_simp
         try rfl
        refine⟨rfl, ?_⟩
        try go_frame
        refine wkz rfl rfl rfl rfl ?_
        apply Exists.intro
        apply And.intro
        ·intro w9
         go_simp
         try rfl
        refine⟨rfl, ?_⟩
        try go_frame
        refine wkz rfl rfl rfl rfl ?_
        apply Exists.intro
        apply And.intro
        ·intro w9
         go_simp
         try rfl
        refine⟨rfl, ?_⟩
        try go_frame
        refine aI (fun u hR=> ?_)
        have ho4:OC wj.heap.size (L.take T) o4 u.val:=hR 4 (by simp)
        obtain⟨gp,rfl,hgp⟩:PF (p0,p1,p2,p3) o9 u.val:=hR 9 (by simp)
        have hbu:=u.below
        clear hR
        simp only[oas]
        refine NP ho4 hbu hbu.size rfl (Ov hgp) _ _ rfl rfl rfl rfl (by first|omega|(simp;done)|(simp;omega)) fun v5 w5 hown5 hb5=> ?_
        clear ho4 hgp hbu
        go_frame
        refine NP (ds:=L.drop T) hown5 hb5 hb5.size (by rw[List.length_drop,HLk.out];omega) (fun j u hu=>by rw[List.drop_eq_nil_of_le (by have:=HLk.out;omega)]at hu;simp at hu) _ _ rfl rfl rfl rfl (by first|omega|(simp;done)|(simp;omega)) fun v6 w6 hown6 hb6=> ?_
        go_frame
        iterate 1 (refine wpList_step (fun K hK=> ?_);go_simp;refine hK _ _ ?_;clear hK K)
        refine NoPanic.normal ?_
        go_wp2
        go_roundw
        case rel=>exact⟨T+1,_,by omega,by go_num,fB (fB hb hbj) hb6,YJ ⟨(by have:=HLk.out;simp;omega),fun h=>by omega,AY hown6 (fB hb hbj).size⟩⟩
        case measure=>first|(simp[intOf];done)|(simp[intOf];omega)
       ·have e6:¬cap=T:=hTc
        have e7:¬cap=0:=by omega
        go_wp2
        apply aj [11,12,13] [0,1,2,3,4,5,6,7,8,9,11,12,13] 10 [14,15] [⟨Ou wj.heap.size,by first|exact NQ _|exact NR _|exact NS _ _|exact NT⟩,sv _,sv _,sv _,⟨OC wj.heap.size (L.take T),by first|exact NQ _|exact NR _|exact NS _ _|exact NT⟩,sv _,sv _,sv _,sv _,⟨PF (p0,p1,p2,p3),by first|exact NQ _|exact NR _|exact NS _ _|exact NT⟩,sv undef,sv _,sv _,sv _] (by kernel_rfl) (by kernel_rfl)
        try go_frame
        refine wkU (fun u hR K hK=> ?_) (fun o0=> ?_)
        ·clear hR
         have zz:=u.below.size
         go_simp
         exact hK _ _ bel ⟨_,rfl,zz,ai rfl⟩
        iterate 3 ((try go_frame);refine wkQ ?_)
        try go_frame
        refine wkU (fun u hR K hK=> ?_) (fun o4=> ?_)
        ·have h0:Ou wj.heap.size o0 u.val:=hr hR 0
         clear hR
         obtain⟨gm,rfl,hgm,hgl⟩:=h0
         obtain⟨v9,w9,hrun,hown9,hb9⟩:=dM (P:=Tryz.prog) (w:=u.val) 101 101 192 i0 (v4 (0,0,0,0)) 4 32 kO Hi0.out.1 Hi0.out.2.1 Hi0.out.2.2.1 Hi0.out.2.2.2 rfl (by decide) ⟨gm,0,none⟩ 0 0 [] rfl (fun _ _ h=>by simp at h) ⟨g,0,none⟩ T cap ((L.take T).flatMap aH) (by rw[bh,List.length_take,HLk.out];omega) (mB (tG (by have:=au HOj.out u.below;rw[←HLk.out]at this;exact this)) T) (by omega) (by unfold maxLen;omega) (by omega)
         exact cZ _ _ 101 rfl hrun (hK _ _ hb9 (show OC wj.heap.size (L.take T) v9 w9 from by have h9:=AY hown9 u.below.size;simp only[Nat.zero_add,List.nil_append]at h9;unfold OC;rw[show(L.take T).length=T by rw[List.length_take,HLk.out];omega];exact h9))
        iterate 4 ((try go_frame);refine wkQ ?_)
        try go_frame
        refine wkU (fun u hR K hK=> ?_) (fun o9=> ?_)
        ·clear hR
         go_simp
         exact hK _ _ bel ⟨_,rfl,ai rfl⟩
        try go_frame
        refine wkz rfl rfl rfl rfl ?_
        apply Exists.intro
        apply And.intro
        ·intro w9
         go_simp
         try rfl
        refine⟨rfl, ?_⟩
        try go_frame
        refine wkz rfl rfl rfl rfl ?_
        apply Exists.intro
        apply And.intro
        ·intro w9
         go_simp
         try rfl
        refine⟨rfl, ?_⟩
        try go_frame
        refine wkz rfl rfl rfl rfl ?_
        apply Exists.intro
        apply And.intro
        ·intro w9
         go_simp
         try rfl
        refine⟨rfl, ?_⟩
        try go_frame
        refine aI (fun u hR=> ?_)
        have ho4:OC wj.heap.size (L.take T) o4 u.val:=hR 4 (by simp)
        obtain⟨gp,rfl,hgp⟩:PF (p0,p1,p2,p3) o9 u.val:=hR 9 (by simp)
        have hbu:=u.below
        clear hR
        simp only[oas]
        refine NP ho4 hbu hbu.size rfl (Ov hgp) _ _ rfl rfl rfl rfl (by first|omega|(simp;done)|(simp;omega)) fun v5 w5 hown5 hb5=> ?_
        clear ho4 hgp hbu
        go_frame
        refine NP (ds:=L.drop T) hown5 hb5 hb5.size (by rw[List.length_drop,HLk.out]) (gD (tG (by have:=au HOj.out hb5;rw[←HLk.out]at this;exact this)) T) _ _ rfl rfl rfl rfl (by first|omega|(simp;done)|(simp;omega)) fun v6 w6 hown6 hb6=> ?_
        go_frame
        iterate 1 (refine wpList_step (fun K hK=> ?_);go_simp;refine hK _ _ ?_;clear hK K)
        refine NoPanic.normal ?_
        go_wp2
        go_roundw
        case rel=>exact⟨k+1,_,by omega,by go_num,fB (fB hb hbj) hb6,YJ ⟨(by have:=HLk.out;simp;omega),fun h=>by omega,AY hown6 (fB hb hbj).size⟩⟩
        case measure=>first|(simp[intOf];done)|(simp[intOf];omega)
  ·clear HX
   obtain rfl:k=n:=by omega
   go_wp2
   go_ret
   exact⟨_,L,rfl,hb,HL.out.1,HL.out.2.2⟩
theorem Oc:Tryz.prog.underlying 165=some (.slice 196):=by kernel_rfl
def Rd (L:List Q4) (W:World) (e:Ending) (w':World):Prop:=∃v,e= .returned v∧Below W.heap.size W w'∧Q4s w' v L
theorem Qf (ps qs:List Q4) (pv qv:Value) (W:World) (h0:0<ps.length) (h1:0<qs.length) (hl:ps.length≤1000) (hl2:qs.length≤1000) (hp:Q4s W pv ps) (hq:Q4s W qv qs):
  Calls Tryz.prog 97 #[pv,qv] W (Rd (ps++qs) W):=by
 obtain⟨i0,hi0,hz0,hz1,hz2⟩:=info_parts cY
 have Hi0:=YJ (And.intro hi0 (And.intro hz0 (And.intro hz1 hz2)))
 clear hi0 hz0 hz1 hz2
 obtain⟨pa,pn,pc,rfl,hpn, -,hpx⟩:=hp
 obtain⟨qa,qn,qc,rfl,hqn, -,hqx⟩:=hq
 obtain⟨b,off,rfl,hi⟩:=hpx (by omega)
 obtain⟨b2,off2,rfl,hi2⟩:=hqx (by omega)
 have HS1:Hid (∀j u,(ps.flatMap aH)[j]? =some u→W.cell? ((⟨b,off,none⟩:Addr).add j)=some u):=YJ (MA hi)
 have HS2:Hid (∀j u,(qs.flatMap aH)[j]? =some u→W.cell? ((⟨b2,off2,none⟩:Addr).add j)=some u):=YJ (MA hi2)
 have Hpn:=YJ hpn
 have Hqn:=YJ hqn
 have hpl:pn≤1000:=by omega
 have hql:qn≤1000:=by omega
 clear hpx hqx hi hi2 hpn hqn h0 h1 hl hl2
 have hm0:(W.alloc (.cells #[] 196)).ownsRow W.heap.size 196 4 (.slice (some ⟨W.heap.size,0,none⟩) 0 0) 0 []:=World.ownsRow_made W #[] 0 (qaA _) (Nat.zero_le _) rfl
 have hx0:Below W.heap.size W (W.alloc (.cells #[] 196)):=bel
 go_enter Tryz.func97,Tryz.ntmps97
 go_wp2_with (at_builtin;refine wpList_append_own _ rfl _ _ 165 rfl W.heap.size 196 i0 (v4 (0,0,0,0)) 4 32 Oc Hi0.out.1 Hi0.out.2.1 Hi0.out.2.2.1 Hi0.out.2.2.2 rfl (by decide) _ 0 _ rfl hm0 ⟨b,off,none⟩ pn pc (ps.flatMap aH) rfl (by rw[dH aH 4 cP,Hpn.out]) (fun j u hu=>ab hx0 (HS1.out j u hu)) (Hu ps) (by unfold maxLen;omega) (by omega) hx0.size ?_)
 intro v' w4 hown4 hg4 _
 have hb4:Below W.heap.size W w4:=hx0.grown hg4 hx0.size (by intro k hk;simp[Value.ownBlock]at hk;omega)
 have HO4:=YJ hown4
 clear hown4 hg4 hm0 hx0
 go_wp2_with (at_builtin;refine wpList_append_own _ rfl _ _ 165 rfl W.heap.size 196 i0 (v4 (0,0,0,0)) 4 32 Oc Hi0.out.1 Hi0.out.2.1 Hi0.out.2.2.1 Hi0.out.2.2.2 rfl (by decide) _ _ _ rfl HO4.out ⟨b2,off2,none⟩ qn qc (qs.flatMap aH) rfl (by rw[dH aH 4 cP,Hqn.out]) (fun j u hu=>ab hb4 (HS2.out j u hu)) (Hu qs) (by unfold maxLen;omega) (by omega) hb4.size ?_)
 intro v6 w6 hown6 hg6 _
 have hb6:Below W.heap.size W w6:=hb4.grown hg6 hb4.size (fun z hz=>(HO4.out.lt z hz).1)
 go_wp2
 go_ret
 refine⟨_,rfl,hb6,dV (base:=W.heap.size) (T:=196) ?_⟩
 rw[qaE,List.flatMap_append,Hpn.out,Hqn.out]
 simpa using hown6
def rcl (c d:List Q4):Bool:=(c++d).all (gM (ct (c++d)))
def Oh (a b:List (List Q4)):Bool:=a.any fun c=>b.any fun d=>rcl c d
def Rf (r:Bool) (W:World) (e:Ending) (w':World):Prop:=Below W.heap.size W w'∧∃i k sa sn sc,e= .returned (.tuple #[.agg #[.int .i64 i, .int .i64 k, .slice sa sn sc], .bool r])
theorem QM {a b:List (List Q4)} {i k:Nat} (hi:i<a.length) (hk:k<b.length) (h:rcl a[i] b[k]=true):Oh a b=true:=by
 unfold Oh
 rw[List.any_eq_true]
 exact⟨a[i],qaB hi,by rw[List.any_eq_true];exact⟨b[k],qaB hk,h⟩⟩
theorem QV {a b:List (List Q4)} (h:∀i k (hi:i<a.length) (hk:k<b.length),rcl a[i] b[k]=false):Oh a b=false:=by
 unfold Oh
 rw[List.any_eq_false]
 intro c hc
 obtain⟨i,hi,rfl⟩:=qaJ hc
 rw[Bool.not_eq_true,List.any_eq_false]
 intro d hd
 obtain⟨k,hk,rfl⟩:=qaJ hd
 rw[h i k hi hk]
 simp
def QW (L:List Q4):Value→World→Prop:=fun v w=>Q4s w v L
theorem QN (L:List Q4):dR (QW L):=fun _ _ _ hb h=>Q4s.below h hb
theorem QA {c d:List Q4} (hc:DC c) (hd:DC d):(∀p∈c++d,bI p)∧(c++d).length≤32∧(ct (c++d)).length≤1000000:=by
 have hl:(c++d).length≤32:=by rw[qaE];have:=hc.2.2;have:=hd.2.2;omega
 refine⟨fun p hp=>(List.mem_append.1 hp).elim (hc.1 p) (hd.1 p),hl, ?_⟩
 have h1:=pO (raw (c++d) (c++d).length)
 have h2:=jp (c++d) (c++d).length (by omega)
 unfold pN at h1
 unfold ct
 have:(c++d).length*(c++d).length*(c++d).length≤32*32*32:=Nat.mul_le_mul (Nat.mul_le_mul hl hl) hl
 omega
theorem PG (a b:List (List Q4)) (sv tv:Value) (W:World) (ha:∀c∈a,DC c) (hb:∀c∈b,DC c) (hal:a.length≤1000) (hbl:b.length≤1000) (h1:SolV W sv a) (h2:SolV W tv b):
  Calls Tryz.prog 52 #[.agg #[sv], .agg #[tv]] W (Rf (Oh a b) W):=by
 obtain⟨sa,sn,sc,rfl,hsn, -,hsx⟩:=h1
 obtain⟨ta,tn,tc,rfl,htn, -,htx⟩:=h2
 obtain⟨V,HV⟩:∃V,Hid (((W.alloc (.cells #[.slice sa sn sc] 81)).alloc (.cells #[.slice ta tn tc] 81)).alloc (.cells #[.int .i64 0, .int .i64 0, .slice none 0 0] 103)=V):=⟨_,YJ rfl⟩
 have hV:Below W.heap.size W V:=by rw[←HV.out];exact bel
 have HA:Hid (V.heap[W.heap.size]? =some (.cells #[.slice sa sn sc] 81 (0,0))):=YJ (by rw[←HV.out];exact(aB (by simp<;>omega)).trans ((aB (by simp)).trans (ai rfl)))
 have HB:Hid (V.heap[W.heap.size+1]? =some (.cells #[.slice ta tn tc] 81 (0,0))):=YJ (by rw[←HV.out];exact(aB (by simp)).trans (ai (by simp)))
 have HO:Hid (V.heap[W.heap.size+2]? =some (.cells #[.int .i64 0, .int .i64 0, .slice none 0 0] 103 (0,0))):=YJ (by rw[←HV.out];exact ai (by simp))
 have HX:=YJ hsx
 have HY:=YJ htx
 have Hn:=YJ hsn
 have Hm:=YJ htn
 have hxl:sn≤1000:=by omega
 have hyl:tn≤1000:=by omega
 have HCa:=fun i (h:i<a.length)=>YJ (ha _ (qaB h))
 have HCb:=fun i (h:i<b.length)=>YJ (hb _ (qaB h))
 have Hhit:=fun i k (hi:i<a.length) (hk:k<b.length)=>YJ (@QM a b i k hi hk)
 have Hno:=YJ (@QV a b)
 clear hsx htx hsn htn ha hb hal hbl
 generalize Oh a b=res at*
 go_enter Tryz.func52,Tryz.ntmps52
 go_wp2
 try rw[HV.out]
 go_loopw [6] (fun x wr=>∃k:Nat,k≤sn∧x= .int .i64 k∧Below V.heap.size V wr∧Hid (∀i j (hi:i<a.length) (hj:j<b.length),i<k→rcl a[i] b[j]=false)) (fun x _=>sn-(intOf x).toNat)
 case atStart=>exact⟨0,by omega,rfl,brf,YJ (fun i j _ _ h=>by omega)⟩
 case round=>
  obtain⟨k,hk,rfl,hb,Hd⟩:=hrel
  have hAr:=(hb.block _ (ah HA.out)).trans HA.out
  have a0:wr.cell? ⟨W.heap.size,0,none⟩=some (.slice sa sn sc):=(ag hAr 0).trans rfl
  have az:=ah hAr
  clear hAr
  by_cases hlt:k<sn
  ·have g1:(k:Int)<(sn:Int):=by omega
   have g2:(0:Int)≤(k:Int):=by omega
   have hil:k<a.length:=by have:=Hn.out;omega
   obtain⟨b0,off,rfl,hi4⟩:=HX.out (by omega)
   obtain⟨pv,e0,hq⟩:=hi4 k hil
   have e0:=ab (fB hV hb) e0
   have HQ1:Hid (Q4s wr pv a[k]):=YJ (hq.below (fB hV hb))
   clear hq hi4
   obtain⟨wq,rfl⟩:∃wq:World,wq=wr:=⟨_,rfl⟩
   go_wp2
   go_loopw [7] (fun x wr=>∃j:Nat,j≤tn∧x= .int .i64 j∧Below wq.heap.size wq wr∧Hid (∀m (hm:m<b.length),m<j→rcl a[k] b[m]=false)) (fun x _=>tn-(intOf x).toNat)
   case atStart=>exact⟨0,by omega,rfl,brf,YJ (fun m _ h=>by omega)⟩
   case round=>
    obtain⟨j,hj,rfl,hbq,Hdj⟩:=hrel
    have hbV:Below V.heap.size V wr:=fB hb hbq
    have hBr:=(hbV.block _ (ah HB.out)).trans HB.out
    have b0':wr.cell? ⟨W.heap.size+1,0,none⟩=some (.slice ta tn tc):=(ag hBr 0).trans rfl
    have bz:=ah hBr
    have a0:=ab hbq a0
    have az:=qaG az hbq.size
    clear hBr
    by_cases hlj:j<tn
    ·have g3:(j:Int)<(tn:Int):=by omega
     have g4:(0:Int)≤(j:Int):=by omega
     have hjl:j<b.length:=by have:=Hm.out;omega
     obtain⟨b2,off2,rfl,hi5⟩:=HY.out (by omega)
     obtain⟨qv,f0,hr⟩:=hi5 j hjl
     have f0:=ab (fB hV hbV) f0
     have HR1:Hid (Q4s wr qv b[j]):=YJ (hr.below (fB hV hbV))
     have e0:=ab hbq e0
     have HQ2:=YJ (HQ1.out.below hbq)
     have ze:=qaC wr _ e0
     have zf:=qaC wr _ f0
     simp only at ze zf
     have oa:=(HCa k hil).out
     have ob:=(HCb j hjl).out
     have on:=QA oa ob
     have HJ:=fun W' (hW':Below wr.heap.size wr W')=>YJ (Qf a[k] b[j] pv qv W' oa.2.1 ob.2.1 (qaD oa.2.2 (by decide)) (qaD ob.2.2 (by decide)) (HQ2.out.below hW') (HR1.out.below hW'))
     have HP:=fun v W' (h:Q4s W' v (a[k]++b[j]))=>YJ (WH (a[k]++b[j]) v W' on.1 (qaD on.2.1 (by decide)) h)
     have HI:=fun v cv W' (h:Q4s W' v (a[k]++b[j])) (h':Q4s W' cv (ct (a[k]++b[j])))=>YJ (WI (a[k]++b[j]) (ct (a[k]++b[j])) v cv W' on.1 (fun c hc=>tE on.1 c hc) (qaD on.2.1 (by decide)) on.2.2 h h')
     have HSo:=fun cv W' (h:Q4s W' cv (ct (a[k]++b[j])))=>YJ (Qe (ct (a[k]++b[j])) cv W' on.2.2 h)
     have HCl:Hid (rcl a[k] b[j]=(a[k]++b[j]).all (gM (ct (a[k]++b[j])))):=YJ rfl
     have Hh:=YJ ((Hhit k j hil hjl).out)
     have Hst:Hid (rcl a[k] b[j]=false→∀m (hm:m<b.length),m<j+1→rcl a[k] b[m]=false):=YJ (fun h m hm hmj=>by
      by_cases e:m=j
      ·subst e;exact h
      ·exact Hdj.out m hm (by omega))
     obtain⟨pa,pn,pc,rfl, -⟩:=id HQ2.out
     obtain⟨qa,qn,qc,rfl, -⟩:=id HR1.out
     have HLn:=YJ on.2.2
     clear HX HY Hhit Hno Hd Hdj hi5 oa ob on HCa HCb HQ1 HQ2 HR1 hr
     rw[←HCl.out]at HI
     clear HCl
     generalize rcl a[k] b[j]=cl at*
     generalize ct (a[k]++b[j])=cor at*
     generalize a[k]++b[j]=pls at*
     go_wp2
     apply aj [] [0,1,2,3,4,5,6,7,8,9,10,11,12] 13 [] [sv _,sv _,sv _,sv _,sv _,sv _,sv _,sv _,sv _,sv _,sv _,sv _,⟨QW pls,by first|exact QN _⟩] (by kernel_rfl) (by kernel_rfl)
     iterate 12 ((try go_frame);refine wkQ ?_)
     try go_frame
     refine wkU (fun u hR K hK=> ?_) (fun o12=> ?_)
     ·clear hR
      go_simp
      refine((HJ _ u.below).out).mono ?_
      rintro e w9 ⟨v9,rfl,hb9,hp9⟩
      exact hK _ _ hb9 hp9
     try go_frame
     refine aI (fun u hR=> ?_)
     have hpl:QW pls o12 u.val:=hR 12 (by simp)
     have HPl:=YJ hpl
     have hbu:=u.below
     clear hR HJ a0 az b0' bz e0 f0 ze zf
     obtain⟨ja,jn,jc,rfl, -⟩:=hpl
     generalize u.val=w1 at*
     clear u
     have HP1:=YJ ((HP _ w1 HPl.out).out)
     clear HP
     simp only[oas]
     go_wp2
     refine NoPanic.normal ?_
     go_wp2_with fail
     refine HP1.out.mono ?_
     rintro e w2 ⟨cv,rfl,hb2,hc2⟩
     have HC2:=YJ (dV hc2)
     have HI2:=YJ ((HI _ cv w2 (HPl.out.below hb2) HC2.out).out)
     have HS2:=fun W' (h:Below w2.heap.size w2 W')=>YJ ((HSo cv W' (HC2.out.below h)).out)
     have hbu2:=fB hbu hb2
     obtain⟨ca,cc,rfl⟩:=aT hc2
     clear HI HSo hc2 HP1 HPl
     go_wp2_with fail
     refine HI2.out.mono ?_
     rintro e w3 ⟨rfl,hb3⟩
     have hbu3:=fB hbu2 hb3
     cases cl with
     |false=>
      have HF:=YJ (Hst.out rfl)
      clear HI2 HS2 Hst Hh
      go_wp2
      go_roundw
      case rel=>exact⟨j+1,by omega,by go_num,fB hbq hbu3,HF⟩
      case measure=>first|(simp[intOf];done)|(simp[intOf];omega)
     |true=>
      obtain rfl:=Hh.out rfl
      have HS3:=YJ ((HS2 w3 hb3).out)
      clear HI2 HS2 Hst
      go_wp2_with fail
      refine HS3.out.mono ?_
      rintro e w4 ⟨v,L,rfl,hb4, -,ho⟩
      have hbu4:=fB hbu3 hb4
      have hbV4:=fB hbV hbu4
      have HO4:=YJ ((hbV4.block _ (ah HO.out)).trans HO.out)
      have hw4:Below W.heap.size W w4:=fB hV hbV4
      obtain⟨va,vc,rfl⟩:=aT ho
      generalize L.length=ln at*
      obtain⟨o0,o1,o2,of,oz⟩:=NO HO4.out
      clear HS3 ho
      go_wp2
      refine bodyPost_ret (v:= .tuple #[.agg #[.int .i64 k, .int .i64 j, .slice va ln vc], .bool true]) (by simp[results,Tryz.results52,go_sem,o0,o1,o2,oz]) rfl ⟨?_,k,j,va,ln,vc,rfl⟩
      iterate 3 (refine Below.setCell ?_ (by first|exact qaA _|exact Nat.le_succ _|(simp;done)|(simp;omega)) _)
      exact hw4
    ·obtain rfl:j=tn:=by omega
     clear HX HY Hhit Hno
     have Hd2:Hid (∀i j (hi:i<a.length) (hj:j<b.length),i<k+1→rcl a[i] b[j]=false):=YJ (fun i m hi hm h=>by
      by_cases e:i=k
      ·subst e;exact Hdj.out m hm (by have:=Hm.out;omega)
      ·exact Hd.out i m hi hm (by omega))
     go_wp2
     go_roundw
     case rel=>exact⟨k+1,by omega,by go_num,hbV,Hd2⟩
     case measure=>first|(simp[intOf];done)|(simp[intOf];omega)
  ·obtain rfl:k=sn:=by omega
   have hT:=Hno.out (fun i j hi hj=>Hd.out i j hi hj (by have:=Hn.out;omega))
   subst hT
   have HOr:=YJ ((hb.block _ (ah HO.out)).trans HO.out)
   have hw4:Below W.heap.size W wr:=fB hV hb
   obtain⟨o0,o1,o2,of,oz⟩:=NO HOr.out
   clear HX HY Hhit Hno Hd HCa HCb
   go_wp2
   refine bodyPost_ret (v:= .tuple #[.agg #[.int .i64 0, .int .i64 0, .slice none 0 0], .bool false]) (by simp[results,Tryz.results52,go_sem,o0,o1,o2,oz]) rfl ⟨?_,0,0,none,0,0,rfl⟩
   iterate 3 (refine Below.setCell ?_ (by first|exact qaA _|exact Nat.le_succ _|(simp;done)|(simp;omega)) _)
   exact hw4
def Oe (l:List (List (List Q4))):Bool:=(List.range l.length).any fun i=>(List.range i).any fun k=>Oh (l.getD i []) (l.getD k [])
def NY (l:List (List (List Q4))):Int:=if 12<l.length then 8 else if cx l=0 then(if Oe l then 15 else 0)else cx l
theorem Qg {l:List (List (List Q4))} {i k:Nat} (hi:i<l.length) (hk:k<i) (h:Oh l[i] l[k]=true):Oe l=true:=by
 unfold Oe
 rw[List.any_eq_true]
 refine⟨i,by simpa using hi, ?_⟩
 rw[List.any_eq_true]
 refine⟨k,by simpa using hk, ?_⟩
 simpa [List.getD,hi,(show k<l.length by omega)]using h
theorem Qt {l:List (List (List Q4))} (h:∀i k (hi:i<l.length) (hk:k<i),Oh l[i] l[k]=false):Oe l=false:=by
 unfold Oe
 rw[List.any_eq_false]
 intro i hi
 rw[Bool.not_eq_true,List.any_eq_false]
 intro k hk
 have hi':i<l.length:=by simpa using hi
 have hk':k<i:=by simpa using hk
 have:=h i k hi' hk'
 simpa [List.getD,hi',(show k<l.length by omega)]using this
theorem PP (l:List (List (List Q4))) (lv:Value) (W:World) (hL:∀s∈l,∀c∈s,c.length≤1000000) (h:SolsV W lv l):
  Calls Tryz.prog 14 #[lv] W (Ret W (.int .i64 (NY l))):=by
 obtain⟨la,n,lc,rfl,hn, -,hx⟩:=h
 have HX:=YJ hx
 have HN:=YJ hn
 have H12:Hid (12<n→NY l=8):=YJ (fun h=>by unfold NY;rw[if_pos (by omega)])
 have Hbad:Hid (¬12<n→cx l≠0→NY l=cx l):=YJ (fun h h'=>by unfold NY;rw[if_neg (by omega),if_neg h'])
 have Hcl:Hid (¬12<n→cx l=0→Oe l=true→NY l=15):=YJ (fun h h' h3=>by unfold NY;rw[if_neg (by omega),if_pos h',if_pos h3])
 have Hok:Hid (¬12<n→cx l=0→Oe l=false→NY l=0):=YJ (fun h h' h3=>by unfold NY;rw[if_neg (by omega),if_pos h',if_neg (by simp[h3])])
 have Hhit:=YJ (Fa l)
 have Hnone:=YJ (Eg l)
 have Hany:=YJ (@Fb l)
 have HCh:=YJ (fun i k=> @Qg l i k)
 have HCn:=YJ (@Qt l)
 have HLl:=fun i (h:i<l.length)=>YJ (hL _ (qaB h))
 clear hx hn hL
 generalize NY l=res at*
 generalize cx l=pe at*
 generalize Oe l=ca at*
 go_enter Tryz.func14,Tryz.ntmps14
 by_cases h12:12<n
 ·have g0:(12:Int)<(n:Int):=by omega
  obtain rfl:=H12.out h12
  clear H12 Hbad Hcl Hok Hhit Hnone Hany HCh HCn HX
  go_wp2
  go_ret
  exact⟨rfl,brf⟩
 ·have g0:¬(12:Int)<(n:Int):=by omega
  have Hbad':=YJ (Hbad.out h12)
  have Hcl':=YJ (Hcl.out h12)
  have Hok':=YJ (Hok.out h12)
  have hn12:n≤12:=by omega
  clear H12 Hbad Hcl Hok h12
  go_wp2
  go_loopw [3] (fun x wr=>∃k:Nat,k≤n∧x= .int .i64 k∧Below W.heap.size W wr∧Hid (∀i (hi:i<l.length),i<k→nb l[i]=0)) (fun x _=>n-(intOf x).toNat)
  case atStart=>exact⟨0,by omega,rfl,brf,YJ (fun i _ h=>by omega)⟩
  case round=>
   obtain⟨k,hk,rfl,hb,Hd⟩:=hrel
   by_cases hlt:k<n
   ·have g1:(k:Int)<(n:Int):=by omega
    have g2:(0:Int)≤(k:Int):=by omega
    have hil:k<l.length:=by have:=HN.out;omega
    obtain⟨b,off,rfl,hi4⟩:=HX.out (by omega)
    obtain⟨sv,e0,hs⟩:=hi4 k hil
    have e0:=ab hb e0
    have ze:=qaC wr _ e0
    simp only at ze
    have HC:=fun W' (h:Below wr.heap.size wr W')=>YJ (PO l[k] sv W' (HLl k hil).out ((hs.below hb).below h))
    have HE:Hid (nb l[k]=if Tv l[k]=0 then(if l[k].length=0 then 13 else 0)else Tv l[k]):=YJ rfl
    have Hh:=YJ (Hhit.out k hil (fun i hi hik=>Hd.out i hi hik))
    have Hst:Hid (nb l[k]=0→∀i (hi:i<l.length),i<k+1→nb l[i]=0):=YJ (fun h i hi hik=>by
     by_cases e:i=k
     ·subst e;exact h
     ·exact Hd.out i hi (by omega))
    obtain⟨sa,sn,sc,rfl,hsn, -⟩:=id hs
    have HSn:=YJ hsn
    clear hs hi4 hsn HX Hhit Hnone Hany HCh HCn Hd
    generalize nb l[k]=se at*
    generalize Tv l[k]=so at*
    rw[HSn.out]at HE
    go_wp2_with fail
    refine((HC _ (brf)).out).mono ?_
    rintro e w1 ⟨rfl,hb1⟩
    have hw1:=fB hb hb1
    have e0:=ab hb1 e0
    have ze:=qaG ze hb1.size
    clear HC HSn
    by_cases h0:so=0
    ·subst h0
     rw[if_pos rfl]at HE
     by_cases hz:sn=0
     ·subst hz
      rw[if_pos rfl]at HE
      have h13:=HE.out
      have hpe:=Hh.out (by omega)
      have hr:=Hbad'.out (by omega)
      clear HE Hst Hh Hcl' Hok' Hbad'
      have hz0:((0:Nat):Int)=0:=rfl
      go_wp2
      go_ret
      exact⟨by rw[hr,hpe,h13];rfl,hw1⟩
     ·have g5:¬((sn:Int)=0):=by omega
      have g6:((sn:Int)==0)=false:=by simpa using hz
      rw[if_neg hz]at HE
      have HF:=YJ (Hst.out HE.out)
      clear HE Hst Hh
      go_wp2
      go_roundw
      case rel=>exact⟨k+1,by omega,by go_num,hw1,HF⟩
      case measure=>first|(simp[intOf];done)|(simp[intOf];omega)
    ·rw[if_neg h0]at HE
     have hse:=HE.out
     have hpe:=Hh.out (by omega)
     have hr:=Hbad'.out (by omega)
     have h0':(so !=0)=true:=by simpa using h0
     clear HE Hst Hh Hcl' Hok' Hbad'
     go_wp2
     go_ret
     exact⟨by rw[hr,hpe,hse];rfl,hw1⟩
   ·obtain rfl:n=k:=by omega
    have hpe:=Hnone.out (fun i hi=>Hd.out i hi (by have:=HN.out;omega))
    subst hpe
    have Hcl2:=YJ (Hcl'.out rfl)
    have Hok2:=YJ (Hok'.out rfl)
    have Hall:=YJ (Hany.out rfl)
    clear Hcl' Hok' Hany Hhit Hnone Hd Hbad'
    rename World=>wa
    go_wp2
    go_loopw [5] (fun x wr=>∃k:Nat,k≤n∧x= .int .i64 k∧Below wa.heap.size wa wr∧Hid (∀i j (hi:i<l.length) (hj:j<i),i<k→Oh l[i] l[j]=false)) (fun x _=>n-(intOf x).toNat)
    case atStart=>exact⟨0,by omega,rfl,brf,YJ (fun i j _ _ h=>by omega)⟩
    case round=>
     obtain⟨i,hi,rfl,hbi,Hdi⟩:=hrel
     have hbW:=fB hb hbi
     by_cases hli:i<n
     ·have g3:(i:Int)<(n:Int):=by omega
      have g4:(0:Int)≤(i:Int):=by omega
      have hil:i<l.length:=by have:=HN.out;omega
      obtain⟨b,off,rfl,hx4⟩:=HX.out (by omega)
      obtain⟨sv,e0,hs⟩:=hx4 i hil
      have e0:=ab hbW e0
      have HS:=YJ (hs.below hbW)
      have HX4:=YJ hx4
      clear hx4
      have oS:=Is (Hall.out _ (qaB hil))
      have HOS:=YJ oS
      obtain⟨sa,sn,sc,rfl, -⟩:=hs
      obtain⟨wq,rfl⟩:∃wq:World,wq=wr:=⟨_,rfl⟩
      clear oS HX
      go_wp2
      go_loopw [6] (fun x wr=>∃j:Nat,j≤i∧x= .int .i64 j∧Below wq.heap.size wq wr∧Hid (∀m (hm:m<i),m<j→Oh l[i] l[m]=false)) (fun x _=>i-(intOf x).toNat)
      case atStart=>exact⟨0,by omega,rfl,brf,YJ (fun m _ h=>by omega)⟩
      case round=>
       obtain⟨j,hj,rfl,hbj,Hdj⟩:=hrel
       by_cases hlj:j<i
       ·have g5:(j:Int)<(i:Int):=by omega
        have g6:(0:Int)≤(j:Int):=by omega
        have g7:(j:Int)<(n:Int):=by omega
        have hjl:j<l.length:=by omega
        obtain⟨tv,f0,ht⟩:=HX4.out j hjl
        have f0:=ab (fB hbW hbj) f0
        have HT:=YJ (ht.below (fB hbW hbj))
        have e0:=ab hbj e0
        have ze:=qaC wr _ e0
        simp only at ze
        have oT:=Is (Hall.out _ (qaB hjl))
        have HC:=fun W' (h:Below wr.heap.size wr W')=>YJ (PG l[i] l[j] _ tv W' (fun c hc=>Dl ((xb HOS.out.1).2 c hc)) (fun c hc=>Dl ((xb oT.1).2 c hc)) (qaD (xb HOS.out.1).1 (by decide)) (qaD (xb oT.1).1 (by decide)) ((HS.out.below hbj).below h) (HT.out.below h))
        have Hh:=YJ (HCh.out i j hil hlj)
        have Hst:Hid (Oh l[i] l[j]=false→∀m (hm:m<i),m<j+1→Oh l[i] l[m]=false):=YJ (fun h m hm hmj=>by
         by_cases e:m=j
         ·subst e;exact h
         ·exact Hdj.out m hm (by omega))
        obtain⟨ta,tn,tc,rfl, -⟩:=ht
        clear HX4 HCh HCn Hdi Hdj oT Hall HLl HOS HS HT
        generalize Oh l[i] l[j]=r at*
        go_wp2
        go_cut [8] (fun s8 wx=>s8= .bool r∧Below wr.heap.size wr wx)
        case first=>
         go_region_held (fun w'=>w'.cell? ⟨b,off+i,none⟩=some (.slice sa sn sc)∧w'.cell? ⟨b,off+j,none⟩=some (.slice ta tn tc)∧Below wr.heap.size wr w') (exact⟨ab bel e0,ab bel f0,bel⟩) ((go_at_call 52;refine((HC _ bel).out).mono ?_;rintro e w2 ⟨hb2,i9,k9,s9,n9,c9,rfl⟩;(try(have hq:=(hb2.block wr.heap.size (by simp)).trans (ai (by simp));obtain⟨q0,q1,q2,qf,qz⟩:=NO hq;clear hq));replace hb2:Below wr.heap.size wr w2:=fB bel hb2;have zz2:=hb2.size))
         all_goals (go_wp2_with fail;go_meet;exact⟨rfl,bel⟩)
        case rest=>
         rename World=>w3
         obtain⟨rfl,hb3⟩:=hcut
         clear HC e0 f0 ze
         cases r with
         |true=>
          have hca:=Hh.out rfl
          have hr:=Hcl2.out hca
          have hw3:=fB (fB hbW hbj) hb3
          clear Hh Hst Hcl2 Hok2
          go_wp2
          go_ret
          exact⟨by rw[hr];rfl,hw3⟩
         |false=>
          have HF:=YJ (Hst.out rfl)
          clear Hh Hst
          go_wp2
          go_roundw
          case rel=>exact⟨j+1,by omega,by go_num,fB hbj hb3,HF⟩
          case measure=>first|(simp[intOf];done)|(simp[intOf];omega)
       ·obtain rfl:i=j:=by omega
        have HF:Hid (∀i' j (hi:i'<l.length) (hj:j<i'),i'<i+1→Oh l[i'] l[j]=false):=YJ (fun i' m hi hm h=>by
         by_cases e:i'=i
         ·subst e;exact Hdj.out m hm hm
         ·exact Hdi.out i' m hi hm (by omega))
        have hbq:=fB hbi hbj
        clear e0 HX4
        go_wp2
        go_roundw
        case rel=>exact⟨i+1,by omega,by go_num,hbq,HF⟩
        case measure=>first|(simp[intOf];done)|(simp[intOf];omega)
     ·have hca:=HCn.out (fun i' j hi hj=>Hdi.out i' j hi hj (by have:=HN.out;omega))
      have hr:=Hok2.out hca
      clear HX HCh HCn Hcl2 Hok2 Hall HLl
      go_wp2
      go_ret
      exact⟨by rw[hr];rfl,hbW⟩
end
section
open Go.RowKit Go.Shelf
attribute [local go_sem] Ext.cell Ext.frozen
def NX (n:Nat):Bool:=decide (n≤8) || (decide (16<n)&&decide (n≤20))
set_option maxRecDepth 100000 in
theorem QC (a:Option Addr) (n c:Nat) (W:World):Calls Tryz.prog 94 #[.agg #[.slice a n c]] W (Ret W (.bool (NX n))):=by
 obtain⟨r,HR⟩:∃r,Hid (NX n=r):=⟨_,YJ rfl⟩
 rw[HR.out]
 by_cases h8:n≤8
 ·have g1:(n:Int)≤8:=by omega
  obtain rfl:r=true:=by rw[←HR.out];unfold NX;rw[decide_eq_true h8];rfl
  clear HR
  go_enter Tryz.func94,Tryz.ntmps94
  go_wp2
  go_ret
  exact⟨ay (by simp),bel⟩
 ·have g1:¬(n:Int)≤8:=by omega
  by_cases h16:16<n
  ·have g2:(16:Int)<(n:Int):=by omega
   by_cases h20:n≤20
   ·have g3:(n:Int)≤20:=by omega
    obtain rfl:r=true:=by rw[←HR.out];unfold NX;rw[decide_eq_true h16,decide_eq_true h20];simp
    clear HR
    go_enter Tryz.func94,Tryz.ntmps94
    go_wp2
    go_ret
    exact⟨ay (by simp),bel⟩
   ·have g3:¬(n:Int)≤20:=by omega
    obtain rfl:r=false:=by rw[←HR.out];unfold NX;rw[decide_eq_false h8,decide_eq_false h20];simp
    clear HR
    go_enter Tryz.func94,Tryz.ntmps94
    go_wp2
    go_ret
    exact⟨ay (by simp),bel⟩
  ·have g2:¬(16:Int)<(n:Int):=by omega
   obtain rfl:r=false:=by rw[←HR.out];unfold NX;rw[decide_eq_false h8,decide_eq_false h16];simp
   clear HR
   go_enter Tryz.func94,Tryz.ntmps94
   go_wp2
   go_ret
   exact⟨ay (by simp),bel⟩
def Qh (m n:Nat):Bool:=decide (n≤m) || (decide (100<n)&&decide (n≤105))
def Oa (m:Nat) (css:List (List Q4)):Bool:=Qh m css.length&&css.all fun c=>NX c.length
set_option maxRecDepth 100000 in
theorem PQ (m:Nat) (css:List (List Q4)) (sv:Value) (W:World) (hm:m≤100) (hl:css.length≤maxLen) (h:SolV W sv css):
  Calls Tryz.prog 45 #[.agg #[sv], .int .i64 m] W (Ret W (.bool (Oa m css))):=by
 obtain⟨sa,n,sc,rfl,hn, -,hx⟩:=h
 have HX:=YJ hx
 have HN:=YJ hn
 have HSl:=fun a n c W'=>YJ (QC a n c W')
 have hn':n≤maxLen:=by omega
 have Hc0:Hid (Qh m n=false→Oa m css=false):=YJ (fun h=>by unfold Oa;rw[hn,h];rfl)
 have Hhit:Hid (∀i (hi:i<css.length),NX css[i].length=false→Oa m css=false):=YJ (fun i hi h=>by
  unfold Oa
  rw[Bool.and_eq_false_iff]
  refine .inr ?_
  rw[List.all_eq_false]
  exact⟨css[i],qaB hi,by simpa using h⟩)
 have Hall:Hid (Qh m n=true→(∀i (hi:i<css.length),NX css[i].length=true)→Oa m css=true):=YJ (fun h h2=>by
  unfold Oa
  rw[hn,h,Bool.true_and,alsi]
  intro c hc
  obtain⟨i,hi,rfl⟩:=qaJ hc
  exact h2 i hi)
 obtain⟨V,HV⟩:∃V,Hid (W.alloc (.cells #[.slice sa n sc] 81)=V):=⟨_,YJ rfl⟩
 have hV:Below W.heap.size W V:=by rw[←HV.out];exact bel
 have HA:Hid (V.heap[W.heap.size]? =some (.cells #[.slice sa n sc] 81 (0,0))):=YJ (by rw[←HV.out];exact ai rfl)
 have v0:V.cell? ⟨W.heap.size,0,none⟩=some (.slice sa n sc):=(ag HA.out 0).trans rfl
 have vz:=ah HA.out
 clear hx hn hl
 generalize Oa m css=res at*
 have key:∀g:Bool,Qh m n=g→Hid ((g=true→(n≤m∨100<n∧n≤105))∧(g=false→(m<n∧n≤100)∨105<n)):=fun g hg=>YJ (by
  unfold Qh at hg
  subst hg
  refine⟨fun h=> ?_,fun h=> ?_⟩
  ·simp only[Bool.or_eq_true,qaF,decide_eq_true_eq]at h;omega
  ·simp only[Bool.or_eq_false_iff,Bool.and_eq_false_iff,decide_eq_false_iff_not]at h;omega)
 obtain⟨g,hg⟩:∃g,Qh m n=g:=⟨_,rfl⟩
 have Hk:=key g hg
 rw[hg]at Hc0 Hall
 clear key hg
 cases g with
 |false=>
  have hr:=Hc0.out (by first|rfl|trivial)
  rcases Hk.out.2 (by first|rfl|trivial)with⟨k1,k2⟩|k1
  ·have g1:(m:Int)<(n:Int):=by omega
   have g2:(n:Int)≤100:=by omega
   clear Hc0 Hhit Hall Hk HX HSl
   go_enter Tryz.func45,Tryz.ntmps45
   go_wp2
   go_ret
   exact⟨by first|(rw[hr];rfl)|rfl,by rw[HV.out];exact hV⟩
  ·have g1:(m:Int)<(n:Int):=by omega
   have g2:¬(n:Int)≤100:=by omega
   have g3:(105:Int)<(n:Int):=by omega
   clear Hc0 Hhit Hall Hk HX HSl
   go_enter Tryz.func45,Tryz.ntmps45
   go_wp2
   go_ret
   exact⟨by first|(rw[hr];rfl)|rfl,by rw[HV.out];exact hV⟩
 |true=>
  have hk:=Hk.out.1 (by first|rfl|trivial)
  have g3:¬(105:Int)<(n:Int):=by omega
  have hn105:n≤105:=by omega
  by_cases hmn:n≤m
  ·have g4:¬(m:Int)<(n:Int):=by omega
   clear Hc0 Hk hk
   go_enter Tryz.func45,Tryz.ntmps45
   go_wp2
   try rw[HV.out]
   clear HV
   go_loopw [5] (fun x wr=>∃k:Nat,k≤n∧x= .int .i64 k∧Below V.heap.size V wr∧Hid (∀i (hi:i<css.length),i<k→NX css[i].length=true)) (fun x _=>n-(intOf x).toNat)
   case atStart=>exact⟨0,by omega,rfl,brf,YJ (fun i _ h=>by omega)⟩
   case round=>
    obtain⟨k,hk,rfl,hb,Hd⟩:=hrel
    have r0:=ab hb v0
    have rz:=qaG vz hb.size
    by_cases hlt:k<n
    ·have g1:(k:Int)<(n:Int):=by omega
     have g2:(0:Int)≤(k:Int):=by omega
     have hil:k<css.length:=by have:=HN.out;omega
     obtain⟨b,off,rfl,hi4⟩:=HX.out (by omega)
     obtain⟨pv,e0,hs⟩:=hi4 k hil
     have e0:=ab (fB hV hb) e0
     have ze:=qaC wr _ e0
     simp only at ze
     obtain⟨pa,pn,pc,rfl,hpn, -⟩:=hs
     have HS:=fun W'=>YJ (HSl pa pn pc W').out
     have Hh:=YJ (Hhit.out k hil)
     have Hst:Hid (NX css[k].length=true→∀i (hi:i<css.length),i<k+1→NX css[i].length=true):=YJ (fun h i hi hik=>by
      by_cases e:i=k
      ·subst e;exact h
      ·exact Hd.out i hi (by omega))
     rw[hpn]at Hh Hst
     clear hpn hi4 HX Hhit Hall Hd HSl v0 vz
     generalize NX pn=sl at*
     go_wp2_with fail
     refine((HS _).out).mono ?_
     rintro e w2 ⟨rfl,hb2⟩
     cases sl with
     |true=>
      have HF:=YJ (Hst.out rfl)
      clear HS Hh Hst
      go_wp2
      go_roundw
      case rel=>exact⟨k+1,by omega,by go_num,fB hb hb2,HF⟩
      case measure=>first|(simp[intOf];done)|(simp[intOf];omega)
     |false=>
      have hr:=Hh.out rfl
      have hw:=fB (fB hV hb) hb2
      clear HS Hh Hst
      go_wp2
      go_ret
      exact⟨by first|(rw[hr];rfl)|rfl,hw⟩
    ·obtain rfl:n=k:=by omega
     have hr:=Hall.out (by first|rfl|trivial) (fun i hi=>Hd.out i hi (by have:=HN.out;omega))
     have hw:=fB hV hb
     clear HX Hhit Hall Hd HSl
     go_wp2
     go_ret
     exact⟨by first|(rw[hr];rfl)|rfl,hw⟩
  ·have g4:(m:Int)<(n:Int):=by omega
   have g5:¬(n:Int)≤100:=by omega
   clear Hc0 Hk hk
   go_enter Tryz.func45,Tryz.ntmps45
   go_wp2
   try rw[HV.out]
   clear HV
   go_loopw [5] (fun x wr=>∃k:Nat,k≤n∧x= .int .i64 k∧Below V.heap.size V wr∧Hid (∀i (hi:i<css.length),i<k→NX css[i].length=true)) (fun x _=>n-(intOf x).toNat)
   case atStart=>exact⟨0,by omega,rfl,brf,YJ (fun i _ h=>by omega)⟩
   case round=>
    obtain⟨k,hk,rfl,hb,Hd⟩:=hrel
    have r0:=ab hb v0
    have rz:=qaG vz hb.size
    by_cases hlt:k<n
    ·have g1:(k:Int)<(n:Int):=by omega
     have g2:(0:Int)≤(k:Int):=by omega
     have hil:k<css.length:=by have:=HN.out;omega
     obtain⟨b,off,rfl,hi4⟩:=HX.out (by omega)
     obtain⟨pv,e0,hs⟩:=hi4 k hil
     have e0:=ab (fB hV hb) e0
     have ze:=qaC wr _ e0
     simp only at ze
     obtain⟨pa,pn,pc,rfl,hpn, -⟩:=hs
     have HS:=fun W'=>YJ (HSl pa pn pc W').out
     have Hh:=YJ (Hhit.out k hil)
     have Hst:Hid (NX css[k].length=true→∀i (hi:i<css.length),i<k+1→NX css[i].length=true):=YJ (fun h i hi hik=>by
      by_cases e:i=k
      ·subst e;exact h
      ·exact Hd.out i hi (by omega))
     rw[hpn]at Hh Hst
     clear hpn hi4 HX Hhit Hall Hd HSl v0 vz
     generalize NX pn=sl at*
     go_wp2_with fail
     refine((HS _).out).mono ?_
     rintro e w2 ⟨rfl,hb2⟩
     cases sl with
     |true=>
      have HF:=YJ (Hst.out rfl)
      clear HS Hh Hst
      go_wp2
      go_roundw
      case rel=>exact⟨k+1,by omega,by go_num,fB hb hb2,HF⟩
      case measure=>first|(simp[intOf];done)|(simp[intOf];omega)
     |false=>
      have hr:=Hh.out rfl
      have hw:=fB (fB hV hb) hb2
      clear HS Hh Hst
      go_wp2
      go_ret
      exact⟨by first|(rw[hr];rfl)|rfl,hw⟩
    ·obtain rfl:n=k:=by omega
     have hr:=Hall.out (by first|rfl|trivial) (fun i hi=>Hd.out i hi (by have:=HN.out;omega))
     have hw:=fB hV hb
     clear HX Hhit Hall Hd HSl
     go_wp2
     go_ret
     exact⟨by first|(rw[hr];rfl)|rfl,hw⟩
def Qi (n:Nat):Bool:=decide (n≤4) || (decide (12<n)&&decide (n≤15))
def Ow (l:List (List (List Q4))):Bool:=Qi l.length&&l.all fun s=>Oa 2 s
set_option maxRecDepth 100000 in
theorem QD (l:List (List (List Q4))) (lv:Value) (W:World) (hl:l.length≤maxLen) (hL:∀s∈l,s.length≤maxLen) (h:SolsV W lv l):
  Calls Tryz.prog 11 #[lv] W (Ret W (.bool (Ow l))):=by
 obtain⟨la,n,lc,rfl,hn, -,hx⟩:=h
 have HX:=YJ hx
 have HN:=YJ hn
 have HLn:=fun i (h:i<l.length)=>YJ (hL _ (qaB h))
 have hn':n≤maxLen:=by omega
 have Hc0:Hid (Qi n=false→Ow l=false):=YJ (fun h=>by unfold Ow;rw[hn,h];rfl)
 have Hhit:Hid (∀i (hi:i<l.length),Oa 2 l[i]=false→Ow l=false):=YJ (fun i hi h=>by
  unfold Ow
  rw[Bool.and_eq_false_iff]
  refine .inr ?_
  rw[List.all_eq_false]
  exact⟨l[i],qaB hi,by simpa using h⟩)
 have Hall:Hid (Qi n=true→(∀i (hi:i<l.length),Oa 2 l[i]=true)→Ow l=true):=YJ (fun h h2=>by
  unfold Ow
  rw[hn,h,Bool.true_and,alsi]
  intro c hc
  obtain⟨i,hi,rfl⟩:=qaJ hc
  exact h2 i hi)
 clear hx hn hl hL
 generalize Ow l=res at*
 have key:∀g:Bool,Qi n=g→Hid ((g=true→(n≤4∨12<n∧n≤15))∧(g=false→(4<n∧n≤12)∨15<n)):=fun g hg=>YJ (by
  unfold Qi at hg
  subst hg
  refine⟨fun h=> ?_,fun h=> ?_⟩
  ·simp only[Bool.or_eq_true,qaF,decide_eq_true_eq]at h;omega
  ·simp only[Bool.or_eq_false_iff,Bool.and_eq_false_iff,decide_eq_false_iff_not]at h;omega)
 obtain⟨g,hg⟩:∃g,Qi n=g:=⟨_,rfl⟩
 have Hk:=key g hg
 rw[hg]at Hc0 Hall
 clear key hg
 cases g with
 |false=>
  have hr:=Hc0.out (by first|rfl|trivial)
  rcases Hk.out.2 (by first|rfl|trivial)with⟨k1,k2⟩|k1
  ·have g1:(4:Int)<(n:Int):=by omega
   have g2:(n:Int)≤12:=by omega
   clear Hc0 Hhit Hall Hk HX HLn
   go_enter Tryz.func11,Tryz.ntmps11
   go_wp2
   go_ret
   exact⟨by first|(rw[hr];rfl)|rfl,brf⟩
  ·have g1:(4:Int)<(n:Int):=by omega
   have g2:¬(n:Int)≤12:=by omega
   have g3:(15:Int)<(n:Int):=by omega
   clear Hc0 Hhit Hall Hk HX HLn
   go_enter Tryz.func11,Tryz.ntmps11
   go_wp2
   go_ret
   exact⟨by first|(rw[hr];rfl)|rfl,brf⟩
 |true=>
  have hk:=Hk.out.1 (by first|rfl|trivial)
  have g3:¬(15:Int)<(n:Int):=by omega
  have hn105:n≤15:=by omega
  by_cases hmn:n≤4
  ·have g4:¬(4:Int)<(n:Int):=by omega
   clear Hc0 Hk hk
   go_enter Tryz.func11,Tryz.ntmps11
   go_wp2
   go_loopw [3] (fun x wr=>∃k:Nat,k≤n∧x= .int .i64 k∧Below W.heap.size W wr∧Hid (∀i (hi:i<l.length),i<k→Oa 2 l[i]=true)) (fun x _=>n-(intOf x).toNat)
   case atStart=>exact⟨0,by omega,rfl,brf,YJ (fun i _ h=>by omega)⟩
   case round=>
    obtain⟨k,hk,rfl,hb,Hd⟩:=hrel
    by_cases hlt:k<n
    ·have g1:(k:Int)<(n:Int):=by omega
     have g2:(0:Int)≤(k:Int):=by omega
     have hil:k<l.length:=by have:=HN.out;omega
     obtain⟨b,off,rfl,hi4⟩:=HX.out (by omega)
     obtain⟨sv,e0,hs⟩:=hi4 k hil
     have e0:=ab hb e0
     have ze:=qaC wr _ e0
     simp only at ze
     have HS:Hid (Calls Tryz.prog 45 #[.agg #[sv], .int .i64 2] wr (Ret wr (.bool (Oa 2 l[k])))):=YJ (PQ 2 l[k] sv wr (by decide) (HLn k hil).out (hs.below hb))
     have Hh:=YJ (Hhit.out k hil)
     have Hst:Hid (Oa 2 l[k]=true→∀i (hi:i<l.length),i<k+1→Oa 2 l[i]=true):=YJ (fun h i hi hik=>by
      by_cases e:i=k
      ·subst e;exact h
      ·exact Hd.out i hi (by omega))
     obtain⟨sa,sn,sc,rfl, -⟩:=hs
     clear hi4 HX Hhit Hall Hd HLn
     generalize Oa 2 l[k]=sl at*
     go_wp2_with fail
     refine(HS.out).mono ?_
     rintro e w2 ⟨rfl,hb2⟩
     cases sl with
     |true=>
      have HF:=YJ (Hst.out rfl)
      clear HS Hh Hst
      go_wp2
      go_roundw
      case rel=>exact⟨k+1,by omega,by go_num,fB hb hb2,HF⟩
      case measure=>first|(simp[intOf];done)|(simp[intOf];omega)
     |false=>
      have hr:=Hh.out rfl
      have hw:=fB hb hb2
      clear HS Hh Hst
      go_wp2
      go_ret
      exact⟨by first|(rw[hr];rfl)|rfl,hw⟩
    ·obtain rfl:n=k:=by omega
     have hr:=Hall.out (by first|rfl|trivial) (fun i hi=>Hd.out i hi (by have:=HN.out;omega))
     clear HX Hhit Hall Hd HLn
     go_wp2
     go_ret
     exact⟨by first|(rw[hr];rfl)|rfl,hb⟩
  ·have g4:(4:Int)<(n:Int):=by omega
   have g5:¬(n:Int)≤12:=by omega
   clear Hc0 Hk hk
   go_enter Tryz.func11,Tryz.ntmps11
   go_wp2
   go_loopw [3] (fun x wr=>∃k:Nat,k≤n∧x= .int .i64 k∧Below W.heap.size W wr∧Hid (∀i (hi:i<l.length),i<k→Oa 2 l[i]=true)) (fun x _=>n-(intOf x).toNat)
   case atStart=>exact⟨0,by omega,rfl,brf,YJ (fun i _ h=>by omega)⟩
   case round=>
    obtain⟨k,hk,rfl,hb,Hd⟩:=hrel
    by_cases hlt:k<n
    ·have g1:(k:Int)<(n:Int):=by omega
     have g2:(0:Int)≤(k:Int):=by omega
     have hil:k<l.length:=by have:=HN.out;omega
     obtain⟨b,off,rfl,hi4⟩:=HX.out (by omega)
     obtain⟨sv,e0,hs⟩:=hi4 k hil
     have e0:=ab hb e0
     have ze:=qaC wr _ e0
     simp only at ze
     have HS:Hid (Calls Tryz.prog 45 #[.agg #[sv], .int .i64 2] wr (Ret wr (.bool (Oa 2 l[k])))):=YJ (PQ 2 l[k] sv wr (by decide) (HLn k hil).out (hs.below hb))
     have Hh:=YJ (Hhit.out k hil)
     have Hst:Hid (Oa 2 l[k]=true→∀i (hi:i<l.length),i<k+1→Oa 2 l[i]=true):=YJ (fun h i hi hik=>by
      by_cases e:i=k
      ·subst e;exact h
      ·exact Hd.out i hi (by omega))
     obtain⟨sa,sn,sc,rfl, -⟩:=hs
     clear hi4 HX Hhit Hall Hd HLn
     generalize Oa 2 l[k]=sl at*
     go_wp2_with fail
     refine(HS.out).mono ?_
     rintro e w2 ⟨rfl,hb2⟩
     cases sl with
     |true=>
      have HF:=YJ (Hst.out rfl)
      clear HS Hh Hst
      go_wp2
      go_roundw
      case rel=>exact⟨k+1,by omega,by go_num,fB hb hb2,HF⟩
      case measure=>first|(simp[intOf];done)|(simp[intOf];omega)
     |false=>
      have hr:=Hh.out rfl
      have hw:=fB hb hb2
      clear HS Hh Hst
      go_wp2
      go_ret
      exact⟨by first|(rw[hr];rfl)|rfl,hw⟩
    ·obtain rfl:n=k:=by omega
     have hr:=Hall.out (by first|rfl|trivial) (fun i hi=>Hd.out i hi (by have:=HN.out;omega))
     clear HX Hhit Hall Hd HLn
     go_wp2
     go_ret
     exact⟨by first|(rw[hr];rfl)|rfl,hb⟩
end
end Go.Proofs.YtnpmkepfpekhfaaGreatDoor
